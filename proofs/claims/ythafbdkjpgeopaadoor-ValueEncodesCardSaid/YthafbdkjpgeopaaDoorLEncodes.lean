/- The walk of the law ValueEncodes. -/
import Derived.Test.YthafbdkjpgeopaaDoorLawW
import Derived.Test.YthafbdkjpgeopaaDoorEncS
set_option linter.unusedVariables false
set_option linter.unusedSimpArgs false
namespace Go.Proofs.YthafbdkjpgeopaaDoor
open Go.RowKit

set_option maxRecDepth 100000 in
set_option maxHeartbeats 3200000 in
theorem encodes_walk (ka : Int) (na : Int) (ba : Bool) (sa : ByteArray) (Aa : Option Addr) (pa : List Int) (ca : Nat) (w : World) (hra : ReadsI w Aa pa) (ht : Tabs w) (hnn : -9223372036854775808 ≤ na ∧ na ≤ 9223372036854775807) (hss : sa.size ≤ 9223372036854775807) (hT : Lib.Utf8Tabs 0 1 w) :
    Calls Tryd.prog 16 #[.agg #[.int .i64 ka, .bool ba, .int .i64 na, .string sa, .slice Aa pa.length ca]] w fun e w' => e = .returned (.bool true) ∧ Below w.heap.size w w' := by
  have hH := fun W (h : Below w.heap.size w W) => head_any W (ht.below h)
  have hE : ∀ W, Below w.heap.size w W → Calls Tryd.prog 23 #[.agg #[.int .i64 ka, .bool ba, .int .i64 na, .string sa, .slice Aa pa.length ca]] W fun e w' => ∃ v', e = .returned v' ∧ w'.ownsRow W.heap.size 5 1 v' (encL ka ba na sa pa).length (encL ka ba na sa pa) ∧ Below W.heap.size W w' := fun W hW => enc_any ka na ba sa Aa pa ca W (hra.below hW) hnn
  have hE2 : ∀ W, Below w.heap.size w W → Calls Tryd.prog 41 #[.agg #[.int .i64 ka, .bool ba, .int .i64 na, .string sa, .slice Aa pa.length ca]] W fun e w' => ∃ v', e = .returned v' ∧ w'.ownsRow W.heap.size 5 1 v' (encL ka ba na sa pa).length (encL ka ba na sa pa) ∧ Below W.heap.size W w' := fun W hW => renc_any ka na ba sa Aa pa ca W (hra.below hW) hnn hss (Utf8Tabs_below hT hW)
  have hU := allU8_enc ka ba na sa pa
  generalize encL ka ba na sa pa = X at hE hE2 hU
  have hcs : ∀ W B v, W.ownsRow B 5 1 v X.length X → (convert 30 9 v).run Tryd.prog W = .ok (.string (strOf X)) W := fun W B v h => conv_str h hU
  generalize strOf X = T at hcs
  have htt : (T.toList == T.toList) = true := by simp
  clear hra hnn hss hT hU
  clear ht
  go_enter Tryd.func16, Tryd.ntmps16
  go_wp2_with (first | (go_at_call 19; refine (hH _ (by repeat (first | exact Below.refl _ _ | assumption | apply below_more | apply below_drew | apply below_drewn | refine below_set ?_ (by simp <;> omega) _))).mono ?_; rintro e w0 ⟨rfl, hb1⟩; have hzw0 : w.heap.size < w0.heap.size := (by have := hb1.size; (try simp at this); omega); have hy0 : w.heap.size < w0.heap.size := (by omega); have hbx0 : ∀ i, w0.cell? ⟨w.heap.size, i, none⟩ = (#[.int .i64 ka, .bool ba, .int .i64 na, .string sa, .slice Aa pa.length ca] : Array Value)[i]? := (fun i => (hb1.cell (p := ⟨w.heap.size, i, none⟩) (by first | omega | (simp; done) | (simp; omega))).trans (by first | exact hbx0 i | simp [go_sem])); have HBw0 : Below w.heap.size w w0 := below_then (by repeat (first | exact Below.refl _ _ | assumption | apply below_more | apply below_drew | apply below_drewn | refine below_set ?_ (by simp <;> omega) _)) hb1; clear hb1))
  first
    | go_region_with (first | (go_at_call 23; (with_reducible refine (hE _ ?_).mono ?_); exact (by repeat (first | exact Below.refl _ _ | assumption | apply below_more | apply below_drew | apply below_drewn | refine below_set ?_ (by simp <;> omega) _)); rintro e w3 ⟨v3, rfl, how3, hb1⟩; have hcw3 := hcs _ _ _ how3; (try (have hkw4 := own_kept how4 (below_then (by repeat (first | exact Below.refl _ _ | apply below_more | apply below_drew | apply below_drewn)) hb1); have hdw4 := hcs _ _ _ hkw4)); have hzw3 : w.heap.size < w3.heap.size := (by have := hb1.size; (try simp at this); omega); have hy0 : w.heap.size < w3.heap.size := (by omega); have hbx0 : ∀ i, w3.cell? ⟨w.heap.size, i, none⟩ = (#[.int .i64 ka, .bool ba, .int .i64 na, .string sa, .slice Aa pa.length ca] : Array Value)[i]? := (fun i => (hb1.cell (p := ⟨w.heap.size, i, none⟩) (by first | omega | (simp; done) | (simp; omega))).trans (by first | exact hbx0 i | simp [go_sem])); have HBw3 : Below w.heap.size w w3 := below_then (by repeat (first | exact Below.refl _ _ | assumption | apply below_more | apply below_drew | apply below_drewn | refine below_set ?_ (by simp <;> omega) _)) hb1; clear hb1) | (go_at_call 41; (with_reducible refine (hE2 _ ?_).mono ?_); exact (by repeat (first | exact Below.refl _ _ | assumption | apply below_more | apply below_drew | apply below_drewn | refine below_set ?_ (by simp <;> omega) _)); rintro e w4 ⟨v4, rfl, how4, hb1⟩; have hcw4 := hcs _ _ _ how4; (try (have hkw3 := own_kept how3 (below_then (by repeat (first | exact Below.refl _ _ | apply below_more | apply below_drew | apply below_drewn)) hb1); have hdw3 := hcs _ _ _ hkw3)); have hzw4 : w.heap.size < w4.heap.size := (by have := hb1.size; (try simp at this); omega); have hy0 : w.heap.size < w4.heap.size := (by omega); have hbx0 : ∀ i, w4.cell? ⟨w.heap.size, i, none⟩ = (#[.int .i64 ka, .bool ba, .int .i64 na, .string sa, .slice Aa pa.length ca] : Array Value)[i]? := (fun i => (hb1.cell (p := ⟨w.heap.size, i, none⟩) (by first | omega | (simp; done) | (simp; omega))).trans (by first | exact hbx0 i | simp [go_sem])); have HBw4 : Below w.heap.size w w4 := below_then (by repeat (first | exact Below.refl _ _ | assumption | apply below_more | apply below_drew | apply below_drewn | refine below_set ?_ (by simp <;> omega) _)) hb1; clear hb1))
    | fail
  all_goals go_wp2_with (fail)
  all_goals go_ret
  all_goals exact ⟨rfl, (by repeat (first | exact Below.refl _ _ | assumption | apply below_more | apply below_drew | apply below_drewn | refine below_set ?_ (by simp <;> omega) _))⟩
end Go.Proofs.YthafbdkjpgeopaaDoor
