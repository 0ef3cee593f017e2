/- The document's Show of a path. -/
import Derived.Test.YthafbdkjpgeopaaDoorRSho
import Derived.Test.YthafbdkjpgeopaaDoorSho6
import Derived.BigGuardPart
set_option linter.unusedVariables false
set_option linter.unusedSimpArgs false
namespace Go.Proofs.YthafbdkjpgeopaaDoor
open Go.RowKit

theorem cat3 (l : List UInt8) (x y : UInt8) (r : List UInt8) : ((⟨l.toArray⟩ : ByteArray) ++ ⟨#[x, y]⟩) ++ ⟨r.toArray⟩ = ⟨(l ++ (x :: y :: r)).toArray⟩ := by
  apply ByteArray.ext
  simp
set_option maxRecDepth 100000 in
set_option maxHeartbeats 3200000 in
theorem rsho_6 (n : Int) (b : Bool) (s : ByteArray) (A : Option Addr) (p : List Int) (c : Nat) (w : World) (hR : ∀ W, Below w.heap.size w W → Calls Tryd.prog 38 #[.agg #[.int .i64 6, .bool b, .int .i64 n, .string s, .slice A p.length c]] W fun e w' => e = .returned (.bool true) ∧ Below W.heap.size W w')
    (hr : ReadsI w A p) (h1 : 0 < p.length) (h9 : p.length ≤ 9) (L : Nat → List UInt8) (hL : ∀ j, (L j).length ≤ 21)
    (hF : ∀ j, j < p.length → ∀ W, Below w.heap.size w W → Calls Tryd.prog 65 #[.int .i64 (p.getD j 0), .int .i64 10] W fun e w' => e = .returned (.string ⟨(L j).toArray⟩) ∧ Below W.heap.size W w') :
    Calls Tryd.prog 40 #[.agg #[.int .i64 6, .bool b, .int .i64 n, .string s, .slice A p.length c]] w fun e w' => e = .returned (.string ⟨(pathL L p.length).toArray⟩) ∧ Below w.heap.size w w' := by
  obtain ⟨ad, rfl, hcell⟩ := hr.2 h1
  have hcW : ∀ W, Below w.heap.size w W → ∀ j, j < p.length → W.cell? (ad.add j) = some (.int .i64 (p.getD j 0)) := fun W hW j hj => by
    obtain ⟨ad', e, h⟩ := (hr.below hW).2 h1
    cases e
    exact h j hj
  clear hcell hr
  obtain ⟨m, hm⟩ : ∃ m, m = p.length := ⟨_, rfl⟩
  rw [← hm] at hR h1 h9 hF hcW ⊢
  clear hm
  have htl : ∀ k, (tailL L k).length ≤ 23 * k := by
    intro k
    induction k with
    | zero => simp [tailL]
    | succ k ih =>
      have := hL (k + 1)
      simp [tailL]
      omega
  go_enter Tryd.func40, Tryd.ntmps40
  go_wp2_with (go_at_call 38; refine (hR _ (below_more (Below.refl _ _) _)).mono ?_)
  rintro e w1 ⟨rfl, hb1⟩
  have hz : w.heap.size < w1.heap.size := (by have := hb1.size; (try simp at this); omega)
  have hbx0 : ∀ i, w1.cell? ⟨w.heap.size, i, none⟩ = (#[.int .i64 6, .bool b, .int .i64 n, .string s, .slice (some ad) m c] : Array Value)[i]? := (fun i => (hb1.cell (p := ⟨w.heap.size, i, none⟩) (by first | omega | (simp; done) | (simp; omega))).trans (by first | exact hbx0 i | simp [go_sem]))
  have HB : Below w.heap.size w w1 := below_then (below_more (Below.refl _ _) _) hb1
  clear hb1
  have hc0 : w1.cell? ad = some (.int .i64 (p.getD 0 0)) := hcW w1 HB 0 h1
  have hF0 := hF 0 h1
  generalize p.getD 0 0 = y0 at hc0 hF0
  have hl0 := hL 0
  have hlim2 : ¬ 9223372036854775807 < 2 + (L 0).length := by omega
  have HT := Aside0.mk htl
  have HL := Aside0.mk hL
  have HC := Aside0.mk hcW
  have HF := Aside0.mk hF
  clear htl hL hcW hF
  go_wp2_with (go_at_call 65; refine (hF0 _ HB).mono ?_)
  rintro e w2 ⟨rfl, hb2⟩
  have HB2 := below_then HB hb2
  have hz2 : w.heap.size < w2.heap.size := by have := hb2.size; omega
  have hbx2 : ∀ i, w2.cell? ⟨w.heap.size, i, none⟩ = (#[.int .i64 6, .bool b, .int .i64 n, .string s, .slice (some ad) m c] : Array Value)[i]? := fun i => (hb2.cell (p := ⟨w.heap.size, i, none⟩) hz).trans (hbx0 i)
  clear hb2 hbx0 hF0 hc0 HB
  go_wp2
  go_loopg [4, 5] (m + 1) (fun gg s4 s5 wr => ∃ (k : Nat) (acc : List UInt8), 1 ≤ k ∧ k ≤ m ∧ m < gg + k ∧ s5 = .int .i64 k ∧ s4 = .string ⟨acc.toArray⟩ ∧ Aside0 (acc = 60 :: 35 :: (L 0 ++ tailL L (k - 1))) ∧ Below w2.heap.size w2 wr)
  case atStart => exact ⟨1, 60 :: 35 :: L 0, Nat.le_refl _, h1, by omega, rfl, by rw [cat2], ⟨by simp [tailL]⟩, Below.refl _ _⟩
  case round =>
    obtain ⟨k, acc, hk1, hk, hg, rfl, rfl, hacc, HBr⟩ := hrel
    have hbxr : ∀ i, wr.cell? ⟨w.heap.size, i, none⟩ = (#[.int .i64 6, .bool b, .int .i64 n, .string s, .slice (some ad) m c] : Array Value)[i]? := fun i => (HBr.cell (p := ⟨w.heap.size, i, none⟩) hz2).trans (hbx2 i)
    have hzr : w.heap.size < wr.heap.size := by have := HBr.size; omega
    have HBw := below_then HB2 HBr
    have hal : acc.length ≤ 300 := by
      have h := HT.out (k - 1)
      have h0 := HL.out 0
      rw [hacc.out]
      simp
      omega
    by_cases hlt : k < m
    · have hlti : (k : Int) < (m : Int) := by omega
      have hk0 : (0 : Int) ≤ (k : Int) := by omega
      have hcell := HC.out wr HBw k hlt
      have hFk := HF.out k hlt
      generalize p.getD k 0 = y at hcell hFk
      have hlk := HL.out k
      have hlim : ¬ 9223372036854775807 < acc.length + 2 := by omega
      have hlim3 : ¬ 9223372036854775807 < acc.length + 2 + (L k).length := by omega
      go_wp2_with (go_at_call 65; refine (hFk _ HBw).mono ?_)
      rintro e w5 ⟨rfl, hb5⟩
      have HB5 := below_then HBr hb5
      clear hb5 hcell hFk HBw hbxr HBr
      go_wp2
      go_roundg (gk - 1)
      case measure => omega
      case rel =>
        refine ⟨k + 1, acc ++ (32 :: 64 :: L k), by omega, by omega, by omega, by go_num, by rw [cat3], ⟨?_⟩, HB5⟩
        rw [hacc.out, Nat.add_sub_cancel]
        obtain ⟨q, rfl⟩ : ∃ q, k = q + 1 := ⟨k - 1, by omega⟩
        simp [tailL]
    · obtain rfl : k = m := by omega
      have hlim : ¬ 9223372036854775807 < acc.length + 1 := by omega
      go_wp2
      go_ret
      refine ⟨congrArg (fun x => Ending.returned (Value.string x)) ?_, HBw⟩
      rw [tac1, hacc.out]
      simp [pathL]
end Go.Proofs.YthafbdkjpgeopaaDoor
