/- The walk of the document's Same. -/
import Derived.Test.YtffifhinhemkdaaDoorVal0
import Derived.Test.YtffifhinhemkdaaDoorRows
import Derived.BigGuardPart
set_option linter.unusedVariables false
set_option linter.unusedSimpArgs false
namespace Go.Proofs.YtffifhinhemkdaaDoor
open Go.RowKit

theorem below_drewn {w W : World} (h : Below w.heap.size w W) (n : Nat) : Below w.heap.size w (W.drewN n) := ⟨h.os, h.tape, h.output, h.size, h.block⟩
theorem below_drew {w W : World} (h : Below w.heap.size w W) : Below w.heap.size w W.drew := h.drew
theorem drop_getD' (p : List Int) (k : Nat) (h : k < p.length) : p.drop k = p.getD k 0 :: p.drop (k + 1) := by
  rw [List.drop_eq_getElem_cons h]
  simp [List.getD, h]
/-- Are two values alike, in all fields? -/
def sameB (ka : Int) (ba : Bool) (na : Int) (sa : ByteArray) (pa : List Int) (kb : Int) (bb : Bool) (nb : Int) (sb : ByteArray) (pb : List Int) : Bool :=
  decide (pa = pb) && (ka == kb && ba == bb && na == nb && sa.toList == sb.toList)

set_option maxRecDepth 100000 in
set_option maxHeartbeats 1600000 in
theorem same_len (ka : Int) (na : Int) (ba : Bool) (sa : ByteArray) (Aa : Option Addr) (pa : List Int) (ca : Nat) (kb : Int) (nb : Int) (bb : Bool) (sb : ByteArray) (Ab : Option Addr) (pb : List Int) (cb : Nat) (w : World) (h : ((pa.length : Int) != (pb.length : Int)) = true) :
    Calls Tryd.prog 47 #[.agg #[.int .i64 ka, .bool ba, .int .i64 na, .string sa, .slice Aa pa.length ca], .agg #[.int .i64 kb, .bool bb, .int .i64 nb, .string sb, .slice Ab pb.length cb]] w fun e w' => e = .returned (.bool false) ∧ Below w.heap.size w w' := by
  go_enter Tryd.func47, Tryd.ntmps47
  go_wp2
  go_ret
  exact ⟨rfl, below_more (below_more (Below.refl _ _) _) _⟩


set_option maxRecDepth 100000 in
set_option maxHeartbeats 3200000 in
theorem same_any0 (m : Nat) (ka : Int) (na : Int) (ba : Bool) (sa : ByteArray) (Aa : Option Addr) (pa : List Int) (ca : Nat) (kb : Int) (nb : Int) (bb : Bool) (sb : ByteArray) (Ab : Option Addr) (pb : List Int) (cb : Nat) (w : World) (hra : ReadsI w Aa pa) (hrb : ReadsI w Ab pb) (hm : m = pa.length) (hm' : m = pb.length) :
    Calls Tryd.prog 47 #[.agg #[.int .i64 ka, .bool ba, .int .i64 na, .string sa, .slice Aa m ca], .agg #[.int .i64 kb, .bool bb, .int .i64 nb, .string sb, .slice Ab m cb]] w fun e w' => e = .returned (.bool (sameB ka ba na sa pa kb bb nb sb pb)) ∧ Below w.heap.size w w' := by
  have hlen := hra.1
  rw [← hm] at hlen
  have HM := Aside0.mk hm
  have HM' := Aside0.mk hm'
  obtain ⟨ANS, hANS⟩ : ∃ ANS, sameB ka ba na sa pa kb bb nb sb pb = ANS := ⟨_, rfl⟩
  rw [hANS]
  have HA := Aside0.mk hANS
  obtain ⟨W2, hW2⟩ : ∃ W2, W2 = (w.alloc (.cells #[.int .i64 ka, .bool ba, .int .i64 na, .string sa, .slice Aa m ca] 94)).alloc (.cells #[.int .i64 kb, .bool bb, .int .i64 nb, .string sb, .slice Ab m cb] 94) := ⟨_, rfl⟩
  have hB2 : Below w.heap.size w W2 := by rw [hW2]; exact below_more (below_more (Below.refl _ _) _) _
  have hc0 : ∀ i, W2.cell? ⟨w.heap.size, i, none⟩ = (#[.int .i64 ka, .bool ba, .int .i64 na, .string sa, .slice Aa m ca] : Array Value)[i]? := fun i => by rw [hW2]; simp [go_sem]
  have hc1 : ∀ i, W2.cell? ⟨w.heap.size + 1, i, none⟩ = (#[.int .i64 kb, .bool bb, .int .i64 nb, .string sb, .slice Ab m cb] : Array Value)[i]? := fun i => by rw [hW2]; simp [go_sem]
  have hB2' := Aside0.mk hB2
  have HRA := Aside0.mk (hra.below hB2)
  have HRB := Aside0.mk (hrb.below hB2)
  clear hANS hra hrb hm hm' hB2
  go_enter Tryd.func47, Tryd.ntmps47
  go_wp2
  rw [← hW2]
  clear hW2
  go_loopg [5] (m + 1) (fun gg s5 wr => ∃ k q : Nat, k ≤ m ∧ m < gg + k ∧ s5 = .int .i64 k ∧ wr = W2.drewN q ∧ Aside0 (decide (pa.drop k = pb.drop k) = decide (pa = pb)))
  case atStart => exact ⟨0, 0, Nat.zero_le _, by omega, rfl, rfl, ⟨rfl⟩⟩
  case round =>
    obtain ⟨k, q, hk, hg, rfl, rfl, HB⟩ := hrel
    by_cases hlt : k < m
    · have hlti : (k : Int) < (m : Int) := by omega
      have hk0 : (0 : Int) ≤ (k : Int) := by omega
      obtain ⟨ad, rfl, hcell⟩ := HRA.out.at_ k (by have := HM.out; omega)
      obtain ⟨ad2, rfl, hcell2⟩ := HRB.out.at_ k (by have := HM'.out; omega)
      have hdrop := drop_getD' pa k (by have := HM.out; omega)
      have hdrop2 := drop_getD' pb k (by have := HM'.out; omega)
      generalize hy : pa.getD k 0 = y at hcell hdrop
      generalize hy2 : pb.getD k 0 = y2 at hcell2 hdrop2
      have HD := Aside0.mk hdrop
      have HD2 := Aside0.mk hdrop2
      clear hy hdrop hy2 hdrop2
      by_cases hq : y = y2
      · have hqb : (y != y2) = false := by simp [hq]
        have HQ := Aside0.mk hq
        clear hq
        go_wp2_with fail
        go_quiet (fail)
        go_wp2
        go_roundg (gk - 1)
        case measure => omega
        case rel =>
          refine ⟨k + 1, _, by omega, by omega, by go_num, rfl, ⟨?_⟩⟩
          have := HB.out
          rw [HD.out, HD2.out, HQ.out] at this
          rw [← this]
          simp
      · have hqb : (y != y2) = true := by simpa using hq
        have HQ := Aside0.mk hqb
        clear hq
        go_wp2_with fail
        go_quiet (fail)
        go_wp2
        go_ret
        have := HB.out
        rw [HD.out, HD2.out] at this
        have hne : y ≠ y2 := by simpa using HQ.out
        have h3 : ANS = false := by
          rw [← HA.out, sameB, ← this]
          simp [hne]
        exact ⟨by rw [h3]; rfl, below_drewn (below_drewn hB2'.out _) _⟩
    · have hlti : ¬ (k : Int) < (m : Int) := by omega
      have e1 : pa.drop k = [] := List.drop_eq_nil_of_le (by have := HM.out; omega)
      have e2 : pb.drop k = [] := List.drop_eq_nil_of_le (by have := HM'.out; omega)
      have h3 := HB.out
      rw [e1, e2] at h3
      have h4 : ANS = (ka == kb && ba == bb && na == nb && sa.toList == sb.toList) := by
        rw [← HA.out, sameB, ← h3]
        simp
      have H4 := Aside0.mk h4
      have HBB := hB2'.out
      clear h3 e1 e2 h4 HA HB HRA HRB HM HM'
      cases c1 : (ka == kb)
      · go_wp2
        go_ret
        exact ⟨by rw [H4.out]; simp [c1], below_drewn HBB _⟩
      · cases c2 : (ba == bb)
        · go_wp2
          go_ret
          exact ⟨by rw [H4.out]; simp [c1, c2], below_drewn HBB _⟩
        · cases c3 : (na == nb)
          · go_wp2
            go_ret
            exact ⟨by rw [H4.out]; simp [c1, c2, c3], below_drewn HBB _⟩
          · go_wp2
            go_ret
            exact ⟨by rw [H4.out]; simp [c1, c2, c3], below_drewn HBB _⟩

theorem same_any (ka : Int) (na : Int) (ba : Bool) (sa : ByteArray) (Aa : Option Addr) (pa : List Int) (ca : Nat) (kb : Int) (nb : Int) (bb : Bool) (sb : ByteArray) (Ab : Option Addr) (pb : List Int) (cb : Nat) (w : World) (hra : ReadsI w Aa pa) (hrb : ReadsI w Ab pb) :
    Calls Tryd.prog 47 #[.agg #[.int .i64 ka, .bool ba, .int .i64 na, .string sa, .slice Aa pa.length ca], .agg #[.int .i64 kb, .bool bb, .int .i64 nb, .string sb, .slice Ab pb.length cb]] w fun e w' => e = .returned (.bool (sameB ka ba na sa pa kb bb nb sb pb)) ∧ Below w.heap.size w w' := by
  by_cases h : pa.length = pb.length
  · have := same_any0 pa.length ka na ba sa Aa pa ca kb nb bb sb Ab pb cb w hra hrb rfl h
    rw [← h]
    exact this
  · have e : sameB ka ba na sa pa kb bb nb sb pb = false := by
      have : ¬ pa = pb := fun h' => h (congrArg List.length h')
      simp [sameB, this]
    rw [e]
    exact same_len ka na ba sa Aa pa ca kb nb bb sb Ab pb cb w (by rw [bne_iff_ne]; omega)
end Go.Proofs.YtffifhinhemkdaaDoor
