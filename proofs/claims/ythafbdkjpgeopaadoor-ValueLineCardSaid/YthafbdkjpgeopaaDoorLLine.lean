/- The walk of the law ValueLine, whole. -/
import Derived.Test.YthafbdkjpgeopaaDoorLLine0
import Derived.Test.YthafbdkjpgeopaaDoorLLine1
import Derived.Test.YthafbdkjpgeopaaDoorLLine2
import Derived.Test.YthafbdkjpgeopaaDoorLineW
import Derived.Test.YthafbdkjpgeopaaDoorOrd
set_option linter.unusedVariables false
set_option linter.unusedSimpArgs false
namespace Go.Proofs.YthafbdkjpgeopaaDoor
open Go.RowKit

theorem strOf_toList (xs : List Value) : (strOf xs).toList = (strOf xs).data.toList := Lib.toList_data _
theorem line_walk (ka : Int) (na : Int) (ba : Bool) (sa : ByteArray) (Aa : Option Addr) (pa : List Int) (ca : Nat) (kb : Int) (nb : Int) (bb : Bool) (sb : ByteArray) (Ab : Option Addr) (pb : List Int) (cb : Nat) (kc : Int) (nc : Int) (bc : Bool) (sc : ByteArray) (Ac : Option Addr) (pc : List Int) (cc : Nat) (w : World) (hra : ReadsI w Aa pa) (hrb : ReadsI w Ab pb) (hrc : ReadsI w Ac pc) (ht : Tabs w) (hna : -9223372036854775808 ≤ na ∧ na ≤ 9223372036854775807) (hnb : -9223372036854775808 ≤ nb ∧ nb ≤ 9223372036854775807) :
    Calls Tryd.prog 3 #[.agg #[.int .i64 ka, .bool ba, .int .i64 na, .string sa, .slice Aa pa.length ca], .agg #[.int .i64 kb, .bool bb, .int .i64 nb, .string sb, .slice Ab pb.length cb], .agg #[.int .i64 kc, .bool bc, .int .i64 nc, .string sc, .slice Ac pc.length cc]] w fun e w' => e = .returned (.bool true) ∧ Below w.heap.size w w' := by
  have hab : ∀ W, Below w.heap.size w W → Calls Tryd.prog 21 #[.agg #[.int .i64 ka, .bool ba, .int .i64 na, .string sa, .slice Aa pa.length ca], .agg #[.int .i64 kb, .bool bb, .int .i64 nb, .string sb, .slice Ab pb.length cb]] W fun e w' => e = .returned (.int .i64 (ordB ka ba na sa pa kb bb nb sb pb)) ∧ Below W.heap.size W w' := fun W hW => by
    have h := order_any ka na ba sa Aa pa ca kb nb bb sb Ab pb cb W (hra.below hW) (hrb.below hW)
    exact h
  have hbc : ∀ W, Below w.heap.size w W → Calls Tryd.prog 21 #[.agg #[.int .i64 kb, .bool bb, .int .i64 nb, .string sb, .slice Ab pb.length cb], .agg #[.int .i64 kc, .bool bc, .int .i64 nc, .string sc, .slice Ac pc.length cc]] W fun e w' => e = .returned (.int .i64 (ordB kb bb nb sb pb kc bc nc sc pc)) ∧ Below W.heap.size W w' := fun W hW => by
    have h := order_any kb nb bb sb Ab pb cb kc nc bc sc Ac pc cc W (hrb.below hW) (hrc.below hW)
    exact h
  have hac : ∀ W, Below w.heap.size w W → Calls Tryd.prog 21 #[.agg #[.int .i64 ka, .bool ba, .int .i64 na, .string sa, .slice Aa pa.length ca], .agg #[.int .i64 kc, .bool bc, .int .i64 nc, .string sc, .slice Ac pc.length cc]] W fun e w' => e = .returned (.int .i64 (ordB ka ba na sa pa kc bc nc sc pc)) ∧ Below W.heap.size W w' := fun W hW => by
    have h := order_any ka na ba sa Aa pa ca kc nc bc sc Ac pc cc W (hra.below hW) (hrc.below hW)
    exact h
  have hba : ∀ W, Below w.heap.size w W → Calls Tryd.prog 21 #[.agg #[.int .i64 kb, .bool bb, .int .i64 nb, .string sb, .slice Ab pb.length cb], .agg #[.int .i64 ka, .bool ba, .int .i64 na, .string sa, .slice Aa pa.length ca]] W fun e w' => e = .returned (.int .i64 (-ordB ka ba na sa pa kb bb nb sb pb)) ∧ Below W.heap.size W w' := fun W hW => by
    have h := order_any kb nb bb sb Ab pb cb ka na ba sa Aa pa ca W (hrb.below hW) (hra.below hW)
    rw [ordB_turn ka ba na sa pa kb bb nb sb pb] at h
    exact h
  have haa : ∀ W, Below w.heap.size w W → Calls Tryd.prog 21 #[.agg #[.int .i64 ka, .bool ba, .int .i64 na, .string sa, .slice Aa pa.length ca], .agg #[.int .i64 ka, .bool ba, .int .i64 na, .string sa, .slice Aa pa.length ca]] W fun e w' => e = .returned (.int .i64 (0)) ∧ Below W.heap.size W w' := fun W hW => by
    have h := order_any ka na ba sa Aa pa ca ka na ba sa Aa pa ca W (hra.below hW) (hra.below hW)
    rw [ordB_self] at h
    exact h
  have hRa : ∀ W, Below w.heap.size w W → Calls Tryd.prog 22 #[.agg #[.int .i64 ka, .bool ba, .int .i64 na, .string sa, .slice Aa pa.length ca]] W fun e w' => e = .returned (.bool (rightB ka ba na sa pa)) ∧ Below W.heap.size W w' := fun W hW => right_any ka na ba sa Aa pa ca W (hra.below hW)
  have hRb : ∀ W, Below w.heap.size w W → Calls Tryd.prog 22 #[.agg #[.int .i64 kb, .bool bb, .int .i64 nb, .string sb, .slice Ab pb.length cb]] W fun e w' => e = .returned (.bool (rightB kb bb nb sb pb)) ∧ Below W.heap.size W w' := fun W hW => right_any kb nb bb sb Ab pb cb W (hrb.below hW)
  have hEa : ∀ W, Below w.heap.size w W → Calls Tryd.prog 23 #[.agg #[.int .i64 ka, .bool ba, .int .i64 na, .string sa, .slice Aa pa.length ca]] W fun e w' => ∃ v', e = .returned v' ∧ w'.ownsRow W.heap.size 5 1 v' (encL ka ba na sa pa).length (encL ka ba na sa pa) ∧ Below W.heap.size W w' := fun W hW => enc_any ka na ba sa Aa pa ca W (hra.below hW) hna
  have hEb : ∀ W, Below w.heap.size w W → Calls Tryd.prog 23 #[.agg #[.int .i64 kb, .bool bb, .int .i64 nb, .string sb, .slice Ab pb.length cb]] W fun e w' => ∃ v', e = .returned v' ∧ w'.ownsRow W.heap.size 5 1 v' (encL kb bb nb sb pb).length (encL kb bb nb sb pb) ∧ Below W.heap.size W w' := fun W hW => enc_any kb nb bb sb Ab pb cb W (hrb.below hW) hnb
  have g1 := ordB_range ka ba na sa pa kb bb nb sb pb
  have g2 := ordB_range kb bb nb sb pb kc bc nc sc pc
  have g3 := ordB_range ka ba na sa pa kc bc nc sc pc
  have hL := ordB_line ka ba na sa pa kb bb nb sb pb kc bc nc sc pc
  have hon : (decide (ordB ka ba na sa pa kb bb nb sb pb > 0) || (decide (ordB kb bb nb sb pb kc bc nc sc pc > 0) || (decide (ordB ka ba na sa pa kc bc nc sc pc ≤ 0) && ((ordB ka ba na sa pa kb bb nb sb pb == 0 && ordB kb bb nb sb pb kc bc nc sc pc == 0) == (ordB ka ba na sa pa kc bc nc sc pc == 0))))) = true := by
    unfold Line3 at hL
    generalize ordB ka ba na sa pa kb bb nb sb pb = x at hL g1 ⊢
    generalize ordB kb bb nb sb pb kc bc nc sc pc = y at hL g2 ⊢
    generalize ordB ka ba na sa pa kc bc nc sc pc = z at hL g3 ⊢
    by_cases h1 : x > 0
    · simp [h1]
    by_cases h2 : y > 0
    · simp [h2]
    have h3 := hL (by omega) (by omega)
    have h4 : ((x == 0 && y == 0) == (z == 0)) = true := by
      rw [beq_iff_eq, Bool.eq_iff_iff]
      simp only [Bool.and_eq_true, beq_iff_eq]
      omega
    simp [h1, h2, h3.1, h4]
  by_cases ha : rightB ka ba na sa pa = true
  · rw [ha] at hRa
    by_cases hb : rightB kb bb nb sb pb = true
    · rw [hb] at hRb
      refine line_2 ka na ba sa Aa pa ca kb nb bb sb Ab pb cb kc nc bc sc Ac pc cc w ht _ _ _ (encL ka ba na sa pa) (encL kb bb nb sb pb) (strOf (encL ka ba na sa pa)) (strOf (encL kb bb nb sb pb)) hab hbc hac hba haa hRa hRb hEa hEb (fun W B v h => conv_str h (allU8_enc _ _ _ _ _)) (fun W B v h => conv_str h (allU8_enc _ _ _ _ _)) ?_ g1.1 g1.2 g2.1 g2.2 g3.1 g3.2 hon
      rw [strOf_toList, strOf_toList, beq_iff_eq, Bool.eq_iff_iff]
      simp only [beq_iff_eq]
      have hal := enc_alike hna hnb ha hb
      constructor
      · intro h
        rw [hal.1 h]
      · intro h
        exact hal.2 (strOf_inj (bytes8_enc _ _ _ _ _) (bytes8_enc _ _ _ _ _) h)
    · rw [Bool.not_eq_true] at hb
      rw [hb] at hRb
      exact line_1 ka na ba sa Aa pa ca kb nb bb sb Ab pb cb kc nc bc sc Ac pc cc w ht _ _ _ hab hbc hac hba haa hRa hRb g1.1 g1.2 g2.1 g2.2 g3.1 g3.2 hon
  · rw [Bool.not_eq_true] at ha
    rw [ha] at hRa
    exact line_0 ka na ba sa Aa pa ca kb nb bb sb Ab pb cb kc nc bc sc Ac pc cc w ht _ _ _ hab hbc hac hba haa hRa g1.1 g1.2 g2.1 g2.2 g3.1 g3.2 hon
end Go.Proofs.YthafbdkjpgeopaaDoor
