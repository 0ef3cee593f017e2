/- value.Show of a path. -/
import Derived.Test.YthafbdkjpgeopaaDoorSho
import Derived.Test.YthafbdkjpgeopaaDoorQuo
import Derived.Test.YthafbdkjpgeopaaDoorEncW
import Derived.BigGuardPart
import Derived.Deep.RegionHeld3
import Derived.Deep.RegionLaw
import Derived.Deep.Cut
set_option linter.unusedVariables false
set_option linter.unusedSimpArgs false
namespace Go.Proofs.YthafbdkjpgeopaaDoor
open Go.RowKit

/-- What stands behind the first number of a path. -/
def tailL (L : Nat → List UInt8) : Nat → List UInt8
  | 0 => []
  | k + 1 => tailL L k ++ (32 :: 64 :: L (k + 1))
def pathL (L : Nat → List UInt8) (m : Nat) : List UInt8 := 60 :: 35 :: (L 0 ++ (tailL L (m - 1) ++ [62]))
theorem cat2 (x y : UInt8) (l : List UInt8) : (⟨#[x, y]⟩ : ByteArray) ++ ⟨l.toArray⟩ = ⟨(x :: y :: l).toArray⟩ := by
  apply ByteArray.ext
  simp
theorem tac1 (x : UInt8) (l : List UInt8) : (⟨l.toArray⟩ : ByteArray) ++ ⟨#[x]⟩ = ⟨(l ++ [x]).toArray⟩ := by
  apply ByteArray.ext
  simp
theorem strCells_list (l : List UInt8) : Lib.strCells ⟨l.toArray⟩ = Lib.byteCells l := by
  simp [Lib.strCells, Lib.byteCells]
/-- A builder is kept where nothing that lay there has turned. -/
theorem isB_kept {B b : Nat} {bs : List Value} {w w' : World} (h : IsB B b bs w) (hb : Below w.heap.size w w') : IsB B b bs w' := by
  have key : ∀ p, Lib.BuilderAtF 66 5 B b p bs w → Lib.BuilderAtF 66 5 B b p bs w' := by
    rintro p ⟨hB, v, hbk, hown, hne⟩
    have lt : ∀ g o, w.heap[g]? = some o → g < w.heap.size := fun g o e => (Array.getElem?_eq_some_iff.1 e).1
    refine ⟨hB, v, (hb.block b (lt _ _ hbk)).trans hbk, ⟨hown.1, ?_⟩, hne⟩
    rcases hown.2 with h2 | ⟨g, cap, cur, fz, e1, e2, e3, e4⟩
    · exact .inl h2
    · exact .inr ⟨g, cap, cur, fz, e1, e2, (hb.block g (lt _ _ e3)).trans e3, e4⟩
  exact h.elim (fun x => .inl (key _ x)) (fun x => .inr (key _ x))

set_option maxRecDepth 100000 in
set_option maxHeartbeats 3200000 in
theorem sho_6 (n : Int) (b : Bool) (s : ByteArray) (A : Option Addr) (p : List Int) (c : Nat) (w : World) (hR : ∀ W, Below w.heap.size w W → Calls Tryd.prog 22 #[.agg #[.int .i64 6, .bool b, .int .i64 n, .string s, .slice A p.length c]] W fun e w' => e = .returned (.bool true) ∧ Below W.heap.size W w')
    (hr : ReadsI w A p) (h1 : 0 < p.length) (h9 : p.length ≤ 9) (hmc : p.length ≤ c) (L : Nat → List UInt8) (hL : ∀ j, (L j).length ≤ 21)
    (hF : ∀ j, j < p.length → ∀ W, Below w.heap.size w W → Calls Tryd.prog 65 #[.int .i64 (p.getD j 0), .int .i64 10] W fun e w' => e = .returned (.string ⟨(L j).toArray⟩) ∧ Below W.heap.size W w') :
    Calls Tryd.prog 39 #[.agg #[.int .i64 6, .bool b, .int .i64 n, .string s, .slice A p.length c]] w fun e w' => e = .returned (.string ⟨(pathL L p.length).toArray⟩) ∧ Below w.heap.size w w' := by
  obtain ⟨ad, rfl, hcell⟩ := hr.2 h1
  have hcW : ∀ W, Below w.heap.size w W → ∀ j, j < p.length → W.cell? (ad.add j) = some (.int .i64 (p.getD j 0)) := fun W hW j hj => by
    obtain ⟨ad', e, h⟩ := (hr.below hW).2 h1
    cases e
    exact h j hj
  clear hcell hr
  obtain ⟨m, hm⟩ : ∃ m, m = p.length := ⟨_, rfl⟩
  rw [← hm] at hR h1 h9 hF hcW hmc ⊢
  clear hm
  go_enter Tryd.func39, Tryd.ntmps39
  go_wp2_with (go_at_call 22; refine (hR _ (below_more (Below.refl _ _) _)).mono ?_)
  rintro e w1 ⟨rfl, hb1⟩
  have hz : w.heap.size < w1.heap.size := (by have := hb1.size; (try simp at this); omega)
  have hbx0 : ∀ i, w1.cell? ⟨w.heap.size, i, none⟩ = (#[.int .i64 6, .bool b, .int .i64 n, .string s, .slice (some ad) m c] : Array Value)[i]? := (fun i => (hb1.cell (p := ⟨w.heap.size, i, none⟩) (by first | omega | (simp; done) | (simp; omega))).trans (by first | exact hbx0 i | simp [go_sem]))
  have HB : Below w.heap.size w w1 := below_then (below_more (Below.refl _ _) _) hb1
  clear hb1
  obtain ⟨W2, hW2⟩ : ∃ W2, W2 = w1.alloc (.cells #[.pointer none, .slice none 0 0] 66) := ⟨_, rfl⟩
  have hI2 : IsB w1.heap.size w1.heap.size [] W2 := by rw [hW2]; exact Lib.IsBuilderF.of (Lib.fresh_isBuilder 66 5 w1)
  have HB2 : Below w.heap.size w W2 := by rw [hW2]; exact below_more HB _
  have hz2 : w1.heap.size < W2.heap.size := by rw [hW2]; simp
  have hbx2 : ∀ i, W2.cell? ⟨w.heap.size, i, none⟩ = (#[.int .i64 6, .bool b, .int .i64 n, .string s, .slice (some ad) m c] : Array Value)[i]? := fun i => by
    rw [hW2]; exact (((Below.refl w1.heap.size w1).alloc (Nat.le_refl _) _).cell (p := ⟨w.heap.size, i, none⟩) hz).trans (hbx0 i)
  have hc0 : W2.cell? ad = some (.int .i64 (p.getD 0 0)) := hcW W2 HB2 0 h1
  have hF0 := hF 0 h1
  generalize p.getD 0 0 = y0 at hc0 hF0
  have hl0 := hL 0
  have hlim2 : ¬ 9223372036854775807 < 2 + (L 0).length := by omega
  go_upto_region 16 with (fail)
  rw [← hW2]
  clear hW2 hbx0 HB
  go_wp2_with (go_at_call 65; refine (hF0 _ HB2).mono ?_)
  rintro e w3 ⟨rfl, hb3⟩
  have hI3 := isB_kept hI2 hb3
  have hbx3 : ∀ i, w3.cell? ⟨w.heap.size, i, none⟩ = (#[.int .i64 6, .bool b, .int .i64 n, .string s, .slice (some ad) m c] : Array Value)[i]? := fun i => (hb3.cell (p := ⟨w.heap.size, i, none⟩) (by show w.heap.size < W2.heap.size; omega)).trans (hbx2 i)
  have HB3 := below_then HB2 hb3
  have hz3 : w1.heap.size < w3.heap.size := by have := hb3.size; omega
  clear hb3 hI2 hbx2 HB2 hz2 hc0 hF0
  go_wp2_with (go_at_call 67; refine (bld_text w1.heap.size w1.heap.size [] _ _ hI3 (by rw [cat2]; show 0 + (60 :: 35 :: L 0).length ≤ _; simp; omega) (by omega)).mono ?_)
  rintro e w4 ⟨rfl, hI4, hb4, hk4⟩
  rw [cat2, strCells_list, List.nil_append] at hI4
  have hbx4 : ∀ i, w4.cell? ⟨w.heap.size, i, none⟩ = (#[.int .i64 6, .bool b, .int .i64 n, .string s, .slice (some ad) m c] : Array Value)[i]? := fun i => (hb4.cell (p := ⟨w.heap.size, i, none⟩) hz).trans (hbx3 i)
  have HB4 := below_trans HB3 (below_base hb4 (by omega))
  have hz4 : w1.heap.size < w4.heap.size := by have := hb4.size; omega
  clear hb4 hk4 hI3 hbx3 HB3 hlim2 hl0 hz3
  rcases (show (c = 1 ∧ m = 1) ∨ 1 < c by omega) with ⟨rfl, rfl⟩ | hc1
  · have hlim3 : ¬ 9223372036854775807 < (L 0).length + 1 + 1 + 1 := by have := hL 0; omega
    go_wp2
    refine wp_loop_rounds 1 ?_
    rw [rounds_succ]
    go_wp2_with (go_at_call 68; refine (bld_string w1.heap.size w1.heap.size (60 :: 35 :: L 0) _ hI4 (by omega)).mono ?_)
    rintro e w9 ⟨rfl, _, hb9, _⟩
    have HB9 := below_trans HB4 (below_base hb9 (by omega))
    clear hb9
    go_wp2
    go_ret
    exact ⟨congrArg (fun x => Ending.returned (Value.string x)) (by rw [tac1]; simp [pathL, tailL]), HB9⟩
  · go_wp2
    have hcE : ∀ W, Below w.heap.size w W → ∀ j, j < m - 1 → W.cell? (({ block := ad.block, off := ad.off + 1 } : Addr).add j) = some (.int .i64 (p.getD (j + 1) 0)) := by
      intro W hW j hj
      have e : (({ block := ad.block, off := ad.off + 1 } : Addr).add j) = ad.add (j + 1) := by
        cases j with
        | zero => simp [Addr.add]
        | succ j => simp [Addr.add]; omega
      rw [e]
      exact hcW W hW (j + 1) (by omega)
    generalize ({ block := ad.block, off := ad.off + 1 } : Addr) = ae at hcE ⊢
    clear hcW hbx4
    obtain ⟨q, hq⟩ : ∃ q, m = q + 1 := ⟨m - 1, by omega⟩
    subst hq
    simp only [Nat.add_sub_cancel] at hcE ⊢
    have htl : ∀ k, k ≤ q → (L 0 ++ tailL L k).length ≤ 21 + 23 * k := by
      intro k hk
      rw [List.length_append]
      have h0 := hL 0
      have : ∀ k, (tailL L k).length ≤ 23 * k := by
        intro k
        induction k with
        | zero => simp [tailL]
        | succ k ih =>
          have := hL (k + 1)
          simp [tailL]
          omega
      have := this k
      omega
    have HL := Aside0.mk hL
    have HC := Aside0.mk hcE
    clear hL hcE
    go_loopg [51] (q + 1) (fun gg s51 wr => ∃ k : Nat, k ≤ q ∧ q < gg + k ∧ s51 = .int .i64 k ∧ IsB w1.heap.size w1.heap.size (Lib.byteCells (60 :: 35 :: (L 0 ++ tailL L k))) wr ∧ Below w.heap.size w wr ∧ w1.heap.size < wr.heap.size)
    case atStart => exact ⟨0, Nat.zero_le _, by omega, rfl, by simpa [tailL] using hI4, HB4, hz4⟩
    case round =>
      obtain ⟨k, hk, hg, rfl, hI, HB, hzr⟩ := hrel
      have ht0 := htl k hk
      by_cases hlt : k < q
      · have hlti : (k : Int) < (q : Int) := by omega
        have hk0 : (0 : Int) ≤ (k : Int) := by omega
        have hcell := HC.out wr HB k hlt
        have hFk := hF (k + 1) (by omega)
        generalize p.getD (k + 1) 0 = y at hcell hFk
        have hlk := HL.out (k + 1)
        have hlim : ¬ 9223372036854775807 < 2 + (L (k + 1)).length := by omega
        go_wp2_with (go_at_call 65; refine (hFk _ HB).mono ?_)
        rintro e w5 ⟨rfl, hb5⟩
        have hI5 := isB_kept hI hb5
        have HB5 := below_then HB hb5
        have hz5 : w1.heap.size < w5.heap.size := by have := hb5.size; omega
        clear hb5 hI hcell hFk HB
        go_wp2_with (go_at_call 67; refine (bld_text w1.heap.size w1.heap.size _ _ _ hI5 (by rw [cat2, Lib.byteCells_length]; show (60 :: 35 :: (L 0 ++ tailL L k)).length + (32 :: 64 :: L (k + 1)).length ≤ _; simp only [List.length_cons]; omega) (by omega)).mono ?_)
        rintro e w6 ⟨rfl, hI6, hb6, hk6⟩
        rw [cat2, strCells_list, ← Lib.byteCells_append] at hI6
        have HB6 := below_trans HB5 (below_base hb6 (by omega))
        have hz6 : w1.heap.size < w6.heap.size := by have := hb6.size; omega
        have hI7 : IsB w1.heap.size w1.heap.size (Lib.byteCells (60 :: 35 :: (L 0 ++ tailL L (k + 1)))) w6 := by
          have e : (60 :: 35 :: (L 0 ++ tailL L (k + 1))) = 60 :: 35 :: (L 0 ++ tailL L k) ++ (32 :: 64 :: L (k + 1)) := by simp [tailL]
          rw [e]
          exact hI6
        clear hb6 hk6 hI5 HB5 hI6 hlim hlk ht0
        go_wp2
        go_roundg (gk - 1)
        case measure => omega
        case rel => exact ⟨k + 1, by omega, by omega, by go_num, hI7, HB6, hz6⟩
      · obtain rfl : k = q := by omega
        have hlim3 : ¬ 9223372036854775807 < (L 0 ++ tailL L k).length + 1 + 1 + 1 := by omega
        have hlim4 : ¬ 9223372036854775807 < (L 0).length + (tailL L k).length + 1 + 1 + 1 := by rw [List.length_append] at hlim3; omega
        go_wp2_with (go_at_call 68; refine (bld_string w1.heap.size w1.heap.size (60 :: 35 :: (L 0 ++ tailL L k)) _ hI (by omega)).mono ?_)
        rintro e w9 ⟨rfl, _, hb9, _⟩
        have HB9 := below_trans HB (below_base hb9 (by omega))
        clear hb9
        go_wp2
        go_ret
        exact ⟨congrArg (fun x => Ending.returned (Value.string x)) (by rw [tac1]; simp [pathL]), HB9⟩
end Go.Proofs.YthafbdkjpgeopaaDoor
