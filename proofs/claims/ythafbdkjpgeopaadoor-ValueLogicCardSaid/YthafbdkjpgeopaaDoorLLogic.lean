/- The walk of the law ValueLogic (a part). -/
import Derived.Test.YthafbdkjpgeopaaDoorLLogic1
import Derived.Test.YthafbdkjpgeopaaDoorLLogic0
import Derived.Test.YthafbdkjpgeopaaDoorLLogic7
import Derived.LoopN
import Derived.Deep.RegionWith
import Derived.Deep.RegionHeldLaw
set_option linter.unusedVariables false
set_option linter.unusedSimpArgs false
namespace Go.Proofs.YthafbdkjpgeopaaDoor
open Go.RowKit

set_option maxRecDepth 100000 in
set_option maxHeartbeats 6400000 in
theorem logic_x (ka : Int) (na : Int) (ba : Bool) (sa : ByteArray) (Aa : Option Addr) (pa : List Int) (ca : Nat) (kb : Int) (nb : Int) (bb : Bool) (sb : ByteArray) (Ab : Option Addr) (pb : List Int) (cb : Nat) (kc : Int) (nc : Int) (bc : Bool) (sc : ByteArray) (Ac : Option Addr) (pc : List Int) (cc : Nat) (w : World) (ht : Tabs w) 
    (e1 : (ka != 1) = true) (e0 : (ka != 0) = true) (e7 : (ka != 7) = true) :
    Calls Tryd.prog 11 #[.agg #[.int .i64 ka, .bool ba, .int .i64 na, .string sa, .slice Aa pa.length ca], .agg #[.int .i64 kb, .bool bb, .int .i64 nb, .string sb, .slice Ab pb.length cb], .agg #[.int .i64 kc, .bool bc, .int .i64 nc, .string sc, .slice Ac pc.length cc]] w fun e w' => e = .returned (.bool true) ∧ Below w.heap.size w w' := by
  have hH := fun W (h : Below w.heap.size w W) => head_any W (ht.below h)
  clear ht
  go_enter Tryd.func11, Tryd.ntmps11
  go_wp2_with (first | (go_at_call 19; refine (hH _ (by repeat (first | exact Below.refl _ _ | assumption | apply below_more | apply below_drew | apply below_drewn | refine below_set ?_ (by simp <;> omega) _))).mono ?_; rintro e w0 ⟨rfl, hb1⟩; have hzw0 : w.heap.size + 1 + 1 < w0.heap.size := (by have := hb1.size; (try simp at this); omega); have hy0 : w.heap.size < w0.heap.size := (by omega); have hbx0 : ∀ i, w0.cell? ⟨w.heap.size, i, none⟩ = (#[.int .i64 ka, .bool ba, .int .i64 na, .string sa, .slice Aa pa.length ca] : Array Value)[i]? := (fun i => (hb1.cell (p := ⟨w.heap.size, i, none⟩) (by first | omega | (simp; done) | (simp; omega))).trans (by first | exact hbx0 i | simp [go_sem])); have hy1 : w.heap.size + 1 < w0.heap.size := (by omega); have hbx1 : ∀ i, w0.cell? ⟨w.heap.size + 1, i, none⟩ = (#[.int .i64 kb, .bool bb, .int .i64 nb, .string sb, .slice Ab pb.length cb] : Array Value)[i]? := (fun i => (hb1.cell (p := ⟨w.heap.size + 1, i, none⟩) (by first | omega | (simp; done) | (simp; omega))).trans (by first | exact hbx1 i | simp [go_sem])); have hy2 : w.heap.size + 1 + 1 < w0.heap.size := (by omega); have hbx2 : ∀ i, w0.cell? ⟨w.heap.size + 1 + 1, i, none⟩ = (#[.int .i64 kc, .bool bc, .int .i64 nc, .string sc, .slice Ac pc.length cc] : Array Value)[i]? := (fun i => (hb1.cell (p := ⟨w.heap.size + 1 + 1, i, none⟩) (by first | omega | (simp; done) | (simp; omega))).trans (by first | exact hbx2 i | simp [go_sem])); have HBw0 : Below w.heap.size w w0 := below_then (by repeat (first | exact Below.refl _ _ | assumption | apply below_more | apply below_drew | apply below_drewn | refine below_set ?_ (by simp <;> omega) _)) hb1; clear hb1))
  go_loopg [20] 4 (fun gg s20 wr => ∃ k : Nat, k = 0 ∧ 3 < gg + k ∧ s20 = .int .i64 k ∧ Below w.heap.size w wr ∧ w0.heap.size < wr.heap.size ∧ (∀ i, wr.cell? ⟨w.heap.size, i, none⟩ = (#[.int .i64 ka, .bool ba, .int .i64 na, .string sa, .slice Aa pa.length ca] : Array Value)[i]?) ∧ (∀ i, wr.cell? ⟨w.heap.size + 1, i, none⟩ = (#[.int .i64 kb, .bool bb, .int .i64 nb, .string sb, .slice Ab pb.length cb] : Array Value)[i]?) ∧ (∀ i, wr.cell? ⟨w.heap.size + 1 + 1, i, none⟩ = (#[.int .i64 kc, .bool bc, .int .i64 nc, .string sc, .slice Ac pc.length cc] : Array Value)[i]?) ∧ (∀ i, wr.cell? ⟨w0.heap.size, i, none⟩ = (#[.int .i64 ka, .bool ba, .int .i64 na, .string sa, .slice Aa pa.length ca, .int .i64 kb, .bool bb, .int .i64 nb, .string sb, .slice Ab pb.length cb, .int .i64 kc, .bool bc, .int .i64 nc, .string sc, .slice Ac pc.length cc] : Array Value)[i]?))
  case atStart => exact ⟨0, by omega, by omega, rfl, (by repeat (first | exact Below.refl _ _ | assumption | apply below_more | apply below_drew | apply below_drewn | refine below_set ?_ (by simp <;> omega) _)), by simp <;> omega, fun i => by first | exact hbx0 i | (simp [go_sem]; done) | exact Eq.trans ((show Below w0.heap.size w0 _ from by repeat (first | exact Below.refl _ _ | apply below_more | apply below_drew | apply below_drewn)).cell (p := ⟨w.heap.size, i, none⟩) (by simp <;> omega)) (hbx0 i), fun i => by first | exact hbx1 i | (simp [go_sem]; done) | exact Eq.trans ((show Below w0.heap.size w0 _ from by repeat (first | exact Below.refl _ _ | apply below_more | apply below_drew | apply below_drewn)).cell (p := ⟨w.heap.size + 1, i, none⟩) (by simp <;> omega)) (hbx1 i), fun i => by first | exact hbx2 i | (simp [go_sem]; done) | exact Eq.trans ((show Below w0.heap.size w0 _ from by repeat (first | exact Below.refl _ _ | apply below_more | apply below_drew | apply below_drewn)).cell (p := ⟨w.heap.size + 1 + 1, i, none⟩) (by simp <;> omega)) (hbx2 i), fun i => by first | exact hbx9 i | (simp [go_sem]; done) | exact Eq.trans ((show Below w0.heap.size w0 _ from by repeat (first | exact Below.refl _ _ | apply below_more | apply below_drew | apply below_drewn)).cell (p := ⟨w0.heap.size, i, none⟩) (by simp <;> omega)) (hbx9 i)⟩
  case round =>
    obtain ⟨k, hk, hg, rfl, HBr, hsz, hbx0, hbx1, hbx2, hbx9⟩ := hrel
    subst hk
    · · skip
        go_wp2_with (fail)
        go_ret
        exact ⟨rfl, (by repeat (first | exact Below.refl _ _ | assumption | apply below_more | apply below_drew | apply below_drewn | refine below_set ?_ (by simp <;> omega) _))⟩
theorem join_form (is : Bool) (ka : Int) (ba : Bool) (kb : Int) (bb : Bool) : joinB is ka ba kb bb = if (ka = 1 ∧ ba = is) ∨ (kb = 1 ∧ bb = is) then (1, is) else if ka = 0 ∨ kb = 0 then (0, false) else if ka ≠ 1 ∨ kb ≠ 1 then (7, false) else (1, !is) := by
  unfold joinB
  simp only [Bool.and_eq_true, beq_iff_eq]
theorem join_comm (is : Bool) (ka : Int) (ba : Bool) (kb : Int) (bb : Bool) : joinB is kb bb ka ba = joinB is ka ba kb bb := by
  simp only [join_form]
  by_cases a1 : ka = 1 <;> by_cases b1 : kb = 1 <;> by_cases a0 : ka = 0 <;> by_cases b0 : kb = 0 <;> cases is <;> cases ba <;> cases bb <;> simp_all
theorem join_assoc (is : Bool) (ka : Int) (ba : Bool) (kb : Int) (bb : Bool) (kc : Int) (bc : Bool) : joinB is (joinB is ka ba kb bb).1 (joinB is ka ba kb bb).2 kc bc = joinB is ka ba (joinB is kb bb kc bc).1 (joinB is kb bb kc bc).2 := by
  simp only [join_form]
  by_cases a1 : ka = 1 <;> by_cases b1 : kb = 1 <;> by_cases c1 : kc = 1 <;> by_cases a0 : ka = 0 <;> by_cases b0 : kb = 0 <;> by_cases c0 : kc = 0 <;> cases is <;> cases ba <;> cases bb <;> cases bc <;> simp_all
theorem not_join (ka : Int) (ba : Bool) (kb : Int) (bb : Bool) : joinB true (notB ka ba).1 (notB ka ba).2 (notB kb bb).1 (notB kb bb).2 = notB (joinB false ka ba kb bb).1 (joinB false ka ba kb bb).2 := by
  simp only [join_form, notB]
  by_cases a1 : ka = 1 <;> by_cases b1 : kb = 1 <;> by_cases a0 : ka = 0 <;> by_cases b0 : kb = 0 <;> cases ba <;> cases bb <;> simp_all
set_option maxRecDepth 100000 in
set_option maxHeartbeats 3200000 in
theorem logic_walk (ka : Int) (na : Int) (ba : Bool) (sa : ByteArray) (Aa : Option Addr) (pa : List Int) (ca : Nat) (kb : Int) (nb : Int) (bb : Bool) (sb : ByteArray) (Ab : Option Addr) (pb : List Int) (cb : Nat) (kc : Int) (nc : Int) (bc : Bool) (sc : ByteArray) (Ac : Option Addr) (pc : List Int) (cc : Nat) (w : World) (ht : Tabs w) :
    Calls Tryd.prog 11 #[.agg #[.int .i64 ka, .bool ba, .int .i64 na, .string sa, .slice Aa pa.length ca], .agg #[.int .i64 kb, .bool bb, .int .i64 nb, .string sb, .slice Ab pb.length cb], .agg #[.int .i64 kc, .bool bc, .int .i64 nc, .string sc, .slice Ac pc.length cc]] w fun e w' => e = .returned (.bool true) ∧ Below w.heap.size w w' := by
  by_cases k1 : ka = 1
  · subst k1
    have hA1 : ∀ W, Calls Tryd.prog 29 #[.agg #[.int .i64 1, .bool ba, .int .i64 na, .string sa, .slice Aa pa.length ca], .agg #[.int .i64 kb, .bool bb, .int .i64 nb, .string sb, .slice Ab pb.length cb]] W fun e w' => e = .returned (truthV (joinB false 1 ba kb bb).1 (joinB false 1 ba kb bb).2) ∧ Below W.heap.size W w' := fun W => by
      have := and_any 1 na ba sa Aa pa ca kb nb bb sb Ab pb cb W
      exact this
    have hA2 : ∀ W, Calls Tryd.prog 29 #[.agg #[.int .i64 kb, .bool bb, .int .i64 nb, .string sb, .slice Ab pb.length cb], .agg #[.int .i64 1, .bool ba, .int .i64 na, .string sa, .slice Aa pa.length ca]] W fun e w' => e = .returned (truthV (joinB false 1 ba kb bb).1 (joinB false 1 ba kb bb).2) ∧ Below W.heap.size W w' := fun W => by
      have := and_any kb nb bb sb Ab pb cb 1 na ba sa Aa pa ca W
      rw [show joinB false kb bb 1 ba = joinB false 1 ba kb bb from join_comm ..] at this
      exact this
    have hA3 : ∀ W, Calls Tryd.prog 29 #[.agg #[.int .i64 kb, .bool bb, .int .i64 nb, .string sb, .slice Ab pb.length cb], .agg #[.int .i64 kc, .bool bc, .int .i64 nc, .string sc, .slice Ac pc.length cc]] W fun e w' => e = .returned (truthV (joinB false kb bb kc bc).1 (joinB false kb bb kc bc).2) ∧ Below W.heap.size W w' := fun W => by
      have := and_any kb nb bb sb Ab pb cb kc nc bc sc Ac pc cc W
      exact this
    have hA4 : ∀ W, Calls Tryd.prog 29 #[.agg #[.int .i64 1, .bool ba, .int .i64 na, .string sa, .slice Aa pa.length ca], .agg #[.int .i64 (joinB false kb bb kc bc).1, .bool (joinB false kb bb kc bc).2, .int .i64 0, .string ⟨#[]⟩, .slice none 0 0]] W fun e w' => e = .returned (truthV (joinB false 1 ba (joinB false kb bb kc bc).1 (joinB false kb bb kc bc).2).1 (joinB false 1 ba (joinB false kb bb kc bc).1 (joinB false kb bb kc bc).2).2) ∧ Below W.heap.size W w' := fun W => by
      have := and_any 1 na ba sa Aa pa ca (joinB false kb bb kc bc).1 0 (joinB false kb bb kc bc).2 ⟨#[]⟩ none [] 0 W
      exact this
    have hA5 : ∀ W, Calls Tryd.prog 29 #[.agg #[.int .i64 (joinB false 1 ba kb bb).1, .bool (joinB false 1 ba kb bb).2, .int .i64 0, .string ⟨#[]⟩, .slice none 0 0], .agg #[.int .i64 kc, .bool bc, .int .i64 nc, .string sc, .slice Ac pc.length cc]] W fun e w' => e = .returned (truthV (joinB false 1 ba (joinB false kb bb kc bc).1 (joinB false kb bb kc bc).2).1 (joinB false 1 ba (joinB false kb bb kc bc).1 (joinB false kb bb kc bc).2).2) ∧ Below W.heap.size W w' := fun W => by
      have := and_any (joinB false 1 ba kb bb).1 0 (joinB false 1 ba kb bb).2 ⟨#[]⟩ none [] 0 kc nc bc sc Ac pc cc W
      rw [show joinB false (joinB false 1 ba kb bb).1 (joinB false 1 ba kb bb).2 kc bc = joinB false 1 ba (joinB false kb bb kc bc).1 (joinB false kb bb kc bc).2 from join_assoc ..] at this
      exact this
    have hO1 : ∀ W, Calls Tryd.prog 31 #[.agg #[.int .i64 1, .bool ba, .int .i64 na, .string sa, .slice Aa pa.length ca], .agg #[.int .i64 kb, .bool bb, .int .i64 nb, .string sb, .slice Ab pb.length cb]] W fun e w' => e = .returned (truthV (joinB true 1 ba kb bb).1 (joinB true 1 ba kb bb).2) ∧ Below W.heap.size W w' := fun W => by
      have := or_any 1 na ba sa Aa pa ca kb nb bb sb Ab pb cb W
      exact this
    have hO2 : ∀ W, Calls Tryd.prog 31 #[.agg #[.int .i64 kb, .bool bb, .int .i64 nb, .string sb, .slice Ab pb.length cb], .agg #[.int .i64 1, .bool ba, .int .i64 na, .string sa, .slice Aa pa.length ca]] W fun e w' => e = .returned (truthV (joinB true 1 ba kb bb).1 (joinB true 1 ba kb bb).2) ∧ Below W.heap.size W w' := fun W => by
      have := or_any kb nb bb sb Ab pb cb 1 na ba sa Aa pa ca W
      rw [show joinB true kb bb 1 ba = joinB true 1 ba kb bb from join_comm ..] at this
      exact this
    have hO3 : ∀ W, Calls Tryd.prog 31 #[.agg #[.int .i64 kb, .bool bb, .int .i64 nb, .string sb, .slice Ab pb.length cb], .agg #[.int .i64 kc, .bool bc, .int .i64 nc, .string sc, .slice Ac pc.length cc]] W fun e w' => e = .returned (truthV (joinB true kb bb kc bc).1 (joinB true kb bb kc bc).2) ∧ Below W.heap.size W w' := fun W => by
      have := or_any kb nb bb sb Ab pb cb kc nc bc sc Ac pc cc W
      exact this
    have hO4 : ∀ W, Calls Tryd.prog 31 #[.agg #[.int .i64 1, .bool ba, .int .i64 na, .string sa, .slice Aa pa.length ca], .agg #[.int .i64 (joinB true kb bb kc bc).1, .bool (joinB true kb bb kc bc).2, .int .i64 0, .string ⟨#[]⟩, .slice none 0 0]] W fun e w' => e = .returned (truthV (joinB true 1 ba (joinB true kb bb kc bc).1 (joinB true kb bb kc bc).2).1 (joinB true 1 ba (joinB true kb bb kc bc).1 (joinB true kb bb kc bc).2).2) ∧ Below W.heap.size W w' := fun W => by
      have := or_any 1 na ba sa Aa pa ca (joinB true kb bb kc bc).1 0 (joinB true kb bb kc bc).2 ⟨#[]⟩ none [] 0 W
      exact this
    have hO5 : ∀ W, Calls Tryd.prog 31 #[.agg #[.int .i64 (joinB true 1 ba kb bb).1, .bool (joinB true 1 ba kb bb).2, .int .i64 0, .string ⟨#[]⟩, .slice none 0 0], .agg #[.int .i64 kc, .bool bc, .int .i64 nc, .string sc, .slice Ac pc.length cc]] W fun e w' => e = .returned (truthV (joinB true 1 ba (joinB true kb bb kc bc).1 (joinB true kb bb kc bc).2).1 (joinB true 1 ba (joinB true kb bb kc bc).1 (joinB true kb bb kc bc).2).2) ∧ Below W.heap.size W w' := fun W => by
      have := or_any (joinB true 1 ba kb bb).1 0 (joinB true 1 ba kb bb).2 ⟨#[]⟩ none [] 0 kc nc bc sc Ac pc cc W
      rw [show joinB true (joinB true 1 ba kb bb).1 (joinB true 1 ba kb bb).2 kc bc = joinB true 1 ba (joinB true kb bb kc bc).1 (joinB true kb bb kc bc).2 from join_assoc ..] at this
      exact this
    have hN1 : ∀ W, Calls Tryd.prog 25 #[.agg #[.int .i64 (joinB false 1 ba kb bb).1, .bool (joinB false 1 ba kb bb).2, .int .i64 0, .string ⟨#[]⟩, .slice none 0 0]] W fun e w' => e = .returned (truthV (notB (joinB false 1 ba kb bb).1 (joinB false 1 ba kb bb).2).1 (notB (joinB false 1 ba kb bb).1 (joinB false 1 ba kb bb).2).2) ∧ Below W.heap.size W w' := fun W => by
      have := not_any (joinB false 1 ba kb bb).1 0 (joinB false 1 ba kb bb).2 ⟨#[]⟩ none [] 0 W
      exact this
    have hN2 : ∀ W, Calls Tryd.prog 25 #[.agg #[.int .i64 1, .bool ba, .int .i64 na, .string sa, .slice Aa pa.length ca]] W fun e w' => e = .returned (truthV (notB 1 ba).1 (notB 1 ba).2) ∧ Below W.heap.size W w' := fun W => by
      have := not_any 1 na ba sa Aa pa ca W
      exact this
    have hN3 : ∀ W, Calls Tryd.prog 25 #[.agg #[.int .i64 kb, .bool bb, .int .i64 nb, .string sb, .slice Ab pb.length cb]] W fun e w' => e = .returned (truthV (notB kb bb).1 (notB kb bb).2) ∧ Below W.heap.size W w' := fun W => by
      have := not_any kb nb bb sb Ab pb cb W
      exact this
    have hO6 : ∀ W, Calls Tryd.prog 31 #[.agg #[.int .i64 (notB 1 ba).1, .bool (notB 1 ba).2, .int .i64 0, .string ⟨#[]⟩, .slice none 0 0], .agg #[.int .i64 (notB kb bb).1, .bool (notB kb bb).2, .int .i64 0, .string ⟨#[]⟩, .slice none 0 0]] W fun e w' => e = .returned (truthV (notB (joinB false 1 ba kb bb).1 (joinB false 1 ba kb bb).2).1 (notB (joinB false 1 ba kb bb).1 (joinB false 1 ba kb bb).2).2) ∧ Below W.heap.size W w' := fun W => by
      have := or_any (notB 1 ba).1 0 (notB 1 ba).2 ⟨#[]⟩ none [] 0 (notB kb bb).1 0 (notB kb bb).2 ⟨#[]⟩ none [] 0 W
      rw [show joinB true (notB 1 ba).1 (notB 1 ba).2 (notB kb bb).1 (notB kb bb).2 = notB (joinB false 1 ba kb bb).1 (joinB false 1 ba kb bb).2 from not_join ..] at this
      exact this
    have hN4 : ∀ W, Calls Tryd.prog 25 #[.agg #[.int .i64 (notB 1 ba).1, .bool (notB 1 ba).2, .int .i64 0, .string ⟨#[]⟩, .slice none 0 0]] W fun e w' => e = .returned (truthV 1 ba) ∧ Below W.heap.size W w' := fun W => by
      have := not_any (notB 1 ba).1 0 (notB 1 ba).2 ⟨#[]⟩ none [] 0 W
      rw [show notB (notB 1 ba).1 (notB 1 ba).2 = (1, ba) from by simp [notB]] at this
      exact this
    exact logic_1 na ba sa Aa pa ca kb nb bb sb Ab pb cb kc nc bc sc Ac pc cc w ht (joinB false 1 ba kb bb) (joinB false kb bb kc bc) (joinB false 1 ba (joinB false kb bb kc bc).1 (joinB false kb bb kc bc).2) (joinB true 1 ba kb bb) (joinB true kb bb kc bc) (joinB true 1 ba (joinB true kb bb kc bc).1 (joinB true kb bb kc bc).2) (notB (joinB false 1 ba kb bb).1 (joinB false 1 ba kb bb).2) (notB 1 ba) (notB kb bb) hA1 hA2 hA3 hA4 hA5 hO1 hO2 hO3 hO4 hO5 hN1 hN2 hN3 hO6 hN4
  by_cases k0 : ka = 0
  · subst k0
    have hA1 : ∀ W, Calls Tryd.prog 29 #[.agg #[.int .i64 0, .bool ba, .int .i64 na, .string sa, .slice Aa pa.length ca], .agg #[.int .i64 kb, .bool bb, .int .i64 nb, .string sb, .slice Ab pb.length cb]] W fun e w' => e = .returned (truthV (joinB false 0 ba kb bb).1 (joinB false 0 ba kb bb).2) ∧ Below W.heap.size W w' := fun W => by
      have := and_any 0 na ba sa Aa pa ca kb nb bb sb Ab pb cb W
      exact this
    have hA2 : ∀ W, Calls Tryd.prog 29 #[.agg #[.int .i64 kb, .bool bb, .int .i64 nb, .string sb, .slice Ab pb.length cb], .agg #[.int .i64 0, .bool ba, .int .i64 na, .string sa, .slice Aa pa.length ca]] W fun e w' => e = .returned (truthV (joinB false 0 ba kb bb).1 (joinB false 0 ba kb bb).2) ∧ Below W.heap.size W w' := fun W => by
      have := and_any kb nb bb sb Ab pb cb 0 na ba sa Aa pa ca W
      rw [show joinB false kb bb 0 ba = joinB false 0 ba kb bb from join_comm ..] at this
      exact this
    have hA3 : ∀ W, Calls Tryd.prog 29 #[.agg #[.int .i64 kb, .bool bb, .int .i64 nb, .string sb, .slice Ab pb.length cb], .agg #[.int .i64 kc, .bool bc, .int .i64 nc, .string sc, .slice Ac pc.length cc]] W fun e w' => e = .returned (truthV (joinB false kb bb kc bc).1 (joinB false kb bb kc bc).2) ∧ Below W.heap.size W w' := fun W => by
      have := and_any kb nb bb sb Ab pb cb kc nc bc sc Ac pc cc W
      exact this
    have hA4 : ∀ W, Calls Tryd.prog 29 #[.agg #[.int .i64 0, .bool ba, .int .i64 na, .string sa, .slice Aa pa.length ca], .agg #[.int .i64 (joinB false kb bb kc bc).1, .bool (joinB false kb bb kc bc).2, .int .i64 0, .string ⟨#[]⟩, .slice none 0 0]] W fun e w' => e = .returned (truthV (joinB false 0 ba (joinB false kb bb kc bc).1 (joinB false kb bb kc bc).2).1 (joinB false 0 ba (joinB false kb bb kc bc).1 (joinB false kb bb kc bc).2).2) ∧ Below W.heap.size W w' := fun W => by
      have := and_any 0 na ba sa Aa pa ca (joinB false kb bb kc bc).1 0 (joinB false kb bb kc bc).2 ⟨#[]⟩ none [] 0 W
      exact this
    have hA5 : ∀ W, Calls Tryd.prog 29 #[.agg #[.int .i64 (joinB false 0 ba kb bb).1, .bool (joinB false 0 ba kb bb).2, .int .i64 0, .string ⟨#[]⟩, .slice none 0 0], .agg #[.int .i64 kc, .bool bc, .int .i64 nc, .string sc, .slice Ac pc.length cc]] W fun e w' => e = .returned (truthV (joinB false 0 ba (joinB false kb bb kc bc).1 (joinB false kb bb kc bc).2).1 (joinB false 0 ba (joinB false kb bb kc bc).1 (joinB false kb bb kc bc).2).2) ∧ Below W.heap.size W w' := fun W => by
      have := and_any (joinB false 0 ba kb bb).1 0 (joinB false 0 ba kb bb).2 ⟨#[]⟩ none [] 0 kc nc bc sc Ac pc cc W
      rw [show joinB false (joinB false 0 ba kb bb).1 (joinB false 0 ba kb bb).2 kc bc = joinB false 0 ba (joinB false kb bb kc bc).1 (joinB false kb bb kc bc).2 from join_assoc ..] at this
      exact this
    have hO1 : ∀ W, Calls Tryd.prog 31 #[.agg #[.int .i64 0, .bool ba, .int .i64 na, .string sa, .slice Aa pa.length ca], .agg #[.int .i64 kb, .bool bb, .int .i64 nb, .string sb, .slice Ab pb.length cb]] W fun e w' => e = .returned (truthV (joinB true 0 ba kb bb).1 (joinB true 0 ba kb bb).2) ∧ Below W.heap.size W w' := fun W => by
      have := or_any 0 na ba sa Aa pa ca kb nb bb sb Ab pb cb W
      exact this
    have hO2 : ∀ W, Calls Tryd.prog 31 #[.agg #[.int .i64 kb, .bool bb, .int .i64 nb, .string sb, .slice Ab pb.length cb], .agg #[.int .i64 0, .bool ba, .int .i64 na, .string sa, .slice Aa pa.length ca]] W fun e w' => e = .returned (truthV (joinB true 0 ba kb bb).1 (joinB true 0 ba kb bb).2) ∧ Below W.heap.size W w' := fun W => by
      have := or_any kb nb bb sb Ab pb cb 0 na ba sa Aa pa ca W
      rw [show joinB true kb bb 0 ba = joinB true 0 ba kb bb from join_comm ..] at this
      exact this
    have hO3 : ∀ W, Calls Tryd.prog 31 #[.agg #[.int .i64 kb, .bool bb, .int .i64 nb, .string sb, .slice Ab pb.length cb], .agg #[.int .i64 kc, .bool bc, .int .i64 nc, .string sc, .slice Ac pc.length cc]] W fun e w' => e = .returned (truthV (joinB true kb bb kc bc).1 (joinB true kb bb kc bc).2) ∧ Below W.heap.size W w' := fun W => by
      have := or_any kb nb bb sb Ab pb cb kc nc bc sc Ac pc cc W
      exact this
    have hO4 : ∀ W, Calls Tryd.prog 31 #[.agg #[.int .i64 0, .bool ba, .int .i64 na, .string sa, .slice Aa pa.length ca], .agg #[.int .i64 (joinB true kb bb kc bc).1, .bool (joinB true kb bb kc bc).2, .int .i64 0, .string ⟨#[]⟩, .slice none 0 0]] W fun e w' => e = .returned (truthV (joinB true 0 ba (joinB true kb bb kc bc).1 (joinB true kb bb kc bc).2).1 (joinB true 0 ba (joinB true kb bb kc bc).1 (joinB true kb bb kc bc).2).2) ∧ Below W.heap.size W w' := fun W => by
      have := or_any 0 na ba sa Aa pa ca (joinB true kb bb kc bc).1 0 (joinB true kb bb kc bc).2 ⟨#[]⟩ none [] 0 W
      exact this
    have hO5 : ∀ W, Calls Tryd.prog 31 #[.agg #[.int .i64 (joinB true 0 ba kb bb).1, .bool (joinB true 0 ba kb bb).2, .int .i64 0, .string ⟨#[]⟩, .slice none 0 0], .agg #[.int .i64 kc, .bool bc, .int .i64 nc, .string sc, .slice Ac pc.length cc]] W fun e w' => e = .returned (truthV (joinB true 0 ba (joinB true kb bb kc bc).1 (joinB true kb bb kc bc).2).1 (joinB true 0 ba (joinB true kb bb kc bc).1 (joinB true kb bb kc bc).2).2) ∧ Below W.heap.size W w' := fun W => by
      have := or_any (joinB true 0 ba kb bb).1 0 (joinB true 0 ba kb bb).2 ⟨#[]⟩ none [] 0 kc nc bc sc Ac pc cc W
      rw [show joinB true (joinB true 0 ba kb bb).1 (joinB true 0 ba kb bb).2 kc bc = joinB true 0 ba (joinB true kb bb kc bc).1 (joinB true kb bb kc bc).2 from join_assoc ..] at this
      exact this
    have hN1 : ∀ W, Calls Tryd.prog 25 #[.agg #[.int .i64 (joinB false 0 ba kb bb).1, .bool (joinB false 0 ba kb bb).2, .int .i64 0, .string ⟨#[]⟩, .slice none 0 0]] W fun e w' => e = .returned (truthV (notB (joinB false 0 ba kb bb).1 (joinB false 0 ba kb bb).2).1 (notB (joinB false 0 ba kb bb).1 (joinB false 0 ba kb bb).2).2) ∧ Below W.heap.size W w' := fun W => by
      have := not_any (joinB false 0 ba kb bb).1 0 (joinB false 0 ba kb bb).2 ⟨#[]⟩ none [] 0 W
      exact this
    have hN2 : ∀ W, Calls Tryd.prog 25 #[.agg #[.int .i64 0, .bool ba, .int .i64 na, .string sa, .slice Aa pa.length ca]] W fun e w' => e = .returned (truthV (notB 0 ba).1 (notB 0 ba).2) ∧ Below W.heap.size W w' := fun W => by
      have := not_any 0 na ba sa Aa pa ca W
      exact this
    have hN3 : ∀ W, Calls Tryd.prog 25 #[.agg #[.int .i64 kb, .bool bb, .int .i64 nb, .string sb, .slice Ab pb.length cb]] W fun e w' => e = .returned (truthV (notB kb bb).1 (notB kb bb).2) ∧ Below W.heap.size W w' := fun W => by
      have := not_any kb nb bb sb Ab pb cb W
      exact this
    have hO6 : ∀ W, Calls Tryd.prog 31 #[.agg #[.int .i64 (notB 0 ba).1, .bool (notB 0 ba).2, .int .i64 0, .string ⟨#[]⟩, .slice none 0 0], .agg #[.int .i64 (notB kb bb).1, .bool (notB kb bb).2, .int .i64 0, .string ⟨#[]⟩, .slice none 0 0]] W fun e w' => e = .returned (truthV (notB (joinB false 0 ba kb bb).1 (joinB false 0 ba kb bb).2).1 (notB (joinB false 0 ba kb bb).1 (joinB false 0 ba kb bb).2).2) ∧ Below W.heap.size W w' := fun W => by
      have := or_any (notB 0 ba).1 0 (notB 0 ba).2 ⟨#[]⟩ none [] 0 (notB kb bb).1 0 (notB kb bb).2 ⟨#[]⟩ none [] 0 W
      rw [show joinB true (notB 0 ba).1 (notB 0 ba).2 (notB kb bb).1 (notB kb bb).2 = notB (joinB false 0 ba kb bb).1 (joinB false 0 ba kb bb).2 from not_join ..] at this
      exact this
    have hN4 : ∀ W, Calls Tryd.prog 25 #[.agg #[.int .i64 (notB 0 ba).1, .bool (notB 0 ba).2, .int .i64 0, .string ⟨#[]⟩, .slice none 0 0]] W fun e w' => e = .returned (truthV 0 false) ∧ Below W.heap.size W w' := fun W => by
      have := not_any (notB 0 ba).1 0 (notB 0 ba).2 ⟨#[]⟩ none [] 0 W
      rw [show notB (notB 0 ba).1 (notB 0 ba).2 = (0, false) from by simp [notB]] at this
      exact this
    exact logic_0 na ba sa Aa pa ca kb nb bb sb Ab pb cb kc nc bc sc Ac pc cc w ht (joinB false 0 ba kb bb) (joinB false kb bb kc bc) (joinB false 0 ba (joinB false kb bb kc bc).1 (joinB false kb bb kc bc).2) (joinB true 0 ba kb bb) (joinB true kb bb kc bc) (joinB true 0 ba (joinB true kb bb kc bc).1 (joinB true kb bb kc bc).2) (notB (joinB false 0 ba kb bb).1 (joinB false 0 ba kb bb).2) (notB 0 ba) (notB kb bb) hA1 hA2 hA3 hA4 hA5 hO1 hO2 hO3 hO4 hO5 hN1 hN2 hN3 hO6 hN4
  by_cases k7 : ka = 7
  · subst k7
    have hA1 : ∀ W, Calls Tryd.prog 29 #[.agg #[.int .i64 7, .bool ba, .int .i64 na, .string sa, .slice Aa pa.length ca], .agg #[.int .i64 kb, .bool bb, .int .i64 nb, .string sb, .slice Ab pb.length cb]] W fun e w' => e = .returned (truthV (joinB false 7 ba kb bb).1 (joinB false 7 ba kb bb).2) ∧ Below W.heap.size W w' := fun W => by
      have := and_any 7 na ba sa Aa pa ca kb nb bb sb Ab pb cb W
      exact this
    have hA2 : ∀ W, Calls Tryd.prog 29 #[.agg #[.int .i64 kb, .bool bb, .int .i64 nb, .string sb, .slice Ab pb.length cb], .agg #[.int .i64 7, .bool ba, .int .i64 na, .string sa, .slice Aa pa.length ca]] W fun e w' => e = .returned (truthV (joinB false 7 ba kb bb).1 (joinB false 7 ba kb bb).2) ∧ Below W.heap.size W w' := fun W => by
      have := and_any kb nb bb sb Ab pb cb 7 na ba sa Aa pa ca W
      rw [show joinB false kb bb 7 ba = joinB false 7 ba kb bb from join_comm ..] at this
      exact this
    have hA3 : ∀ W, Calls Tryd.prog 29 #[.agg #[.int .i64 kb, .bool bb, .int .i64 nb, .string sb, .slice Ab pb.length cb], .agg #[.int .i64 kc, .bool bc, .int .i64 nc, .string sc, .slice Ac pc.length cc]] W fun e w' => e = .returned (truthV (joinB false kb bb kc bc).1 (joinB false kb bb kc bc).2) ∧ Below W.heap.size W w' := fun W => by
      have := and_any kb nb bb sb Ab pb cb kc nc bc sc Ac pc cc W
      exact this
    have hA4 : ∀ W, Calls Tryd.prog 29 #[.agg #[.int .i64 7, .bool ba, .int .i64 na, .string sa, .slice Aa pa.length ca], .agg #[.int .i64 (joinB false kb bb kc bc).1, .bool (joinB false kb bb kc bc).2, .int .i64 0, .string ⟨#[]⟩, .slice none 0 0]] W fun e w' => e = .returned (truthV (joinB false 7 ba (joinB false kb bb kc bc).1 (joinB false kb bb kc bc).2).1 (joinB false 7 ba (joinB false kb bb kc bc).1 (joinB false kb bb kc bc).2).2) ∧ Below W.heap.size W w' := fun W => by
      have := and_any 7 na ba sa Aa pa ca (joinB false kb bb kc bc).1 0 (joinB false kb bb kc bc).2 ⟨#[]⟩ none [] 0 W
      exact this
    have hA5 : ∀ W, Calls Tryd.prog 29 #[.agg #[.int .i64 (joinB false 7 ba kb bb).1, .bool (joinB false 7 ba kb bb).2, .int .i64 0, .string ⟨#[]⟩, .slice none 0 0], .agg #[.int .i64 kc, .bool bc, .int .i64 nc, .string sc, .slice Ac pc.length cc]] W fun e w' => e = .returned (truthV (joinB false 7 ba (joinB false kb bb kc bc).1 (joinB false kb bb kc bc).2).1 (joinB false 7 ba (joinB false kb bb kc bc).1 (joinB false kb bb kc bc).2).2) ∧ Below W.heap.size W w' := fun W => by
      have := and_any (joinB false 7 ba kb bb).1 0 (joinB false 7 ba kb bb).2 ⟨#[]⟩ none [] 0 kc nc bc sc Ac pc cc W
      rw [show joinB false (joinB false 7 ba kb bb).1 (joinB false 7 ba kb bb).2 kc bc = joinB false 7 ba (joinB false kb bb kc bc).1 (joinB false kb bb kc bc).2 from join_assoc ..] at this
      exact this
    have hO1 : ∀ W, Calls Tryd.prog 31 #[.agg #[.int .i64 7, .bool ba, .int .i64 na, .string sa, .slice Aa pa.length ca], .agg #[.int .i64 kb, .bool bb, .int .i64 nb, .string sb, .slice Ab pb.length cb]] W fun e w' => e = .returned (truthV (joinB true 7 ba kb bb).1 (joinB true 7 ba kb bb).2) ∧ Below W.heap.size W w' := fun W => by
      have := or_any 7 na ba sa Aa pa ca kb nb bb sb Ab pb cb W
      exact this
    have hO2 : ∀ W, Calls Tryd.prog 31 #[.agg #[.int .i64 kb, .bool bb, .int .i64 nb, .string sb, .slice Ab pb.length cb], .agg #[.int .i64 7, .bool ba, .int .i64 na, .string sa, .slice Aa pa.length ca]] W fun e w' => e = .returned (truthV (joinB true 7 ba kb bb).1 (joinB true 7 ba kb bb).2) ∧ Below W.heap.size W w' := fun W => by
      have := or_any kb nb bb sb Ab pb cb 7 na ba sa Aa pa ca W
      rw [show joinB true kb bb 7 ba = joinB true 7 ba kb bb from join_comm ..] at this
      exact this
    have hO3 : ∀ W, Calls Tryd.prog 31 #[.agg #[.int .i64 kb, .bool bb, .int .i64 nb, .string sb, .slice Ab pb.length cb], .agg #[.int .i64 kc, .bool bc, .int .i64 nc, .string sc, .slice Ac pc.length cc]] W fun e w' => e = .returned (truthV (joinB true kb bb kc bc).1 (joinB true kb bb kc bc).2) ∧ Below W.heap.size W w' := fun W => by
      have := or_any kb nb bb sb Ab pb cb kc nc bc sc Ac pc cc W
      exact this
    have hO4 : ∀ W, Calls Tryd.prog 31 #[.agg #[.int .i64 7, .bool ba, .int .i64 na, .string sa, .slice Aa pa.length ca], .agg #[.int .i64 (joinB true kb bb kc bc).1, .bool (joinB true kb bb kc bc).2, .int .i64 0, .string ⟨#[]⟩, .slice none 0 0]] W fun e w' => e = .returned (truthV (joinB true 7 ba (joinB true kb bb kc bc).1 (joinB true kb bb kc bc).2).1 (joinB true 7 ba (joinB true kb bb kc bc).1 (joinB true kb bb kc bc).2).2) ∧ Below W.heap.size W w' := fun W => by
      have := or_any 7 na ba sa Aa pa ca (joinB true kb bb kc bc).1 0 (joinB true kb bb kc bc).2 ⟨#[]⟩ none [] 0 W
      exact this
    have hO5 : ∀ W, Calls Tryd.prog 31 #[.agg #[.int .i64 (joinB true 7 ba kb bb).1, .bool (joinB true 7 ba kb bb).2, .int .i64 0, .string ⟨#[]⟩, .slice none 0 0], .agg #[.int .i64 kc, .bool bc, .int .i64 nc, .string sc, .slice Ac pc.length cc]] W fun e w' => e = .returned (truthV (joinB true 7 ba (joinB true kb bb kc bc).1 (joinB true kb bb kc bc).2).1 (joinB true 7 ba (joinB true kb bb kc bc).1 (joinB true kb bb kc bc).2).2) ∧ Below W.heap.size W w' := fun W => by
      have := or_any (joinB true 7 ba kb bb).1 0 (joinB true 7 ba kb bb).2 ⟨#[]⟩ none [] 0 kc nc bc sc Ac pc cc W
      rw [show joinB true (joinB true 7 ba kb bb).1 (joinB true 7 ba kb bb).2 kc bc = joinB true 7 ba (joinB true kb bb kc bc).1 (joinB true kb bb kc bc).2 from join_assoc ..] at this
      exact this
    have hN1 : ∀ W, Calls Tryd.prog 25 #[.agg #[.int .i64 (joinB false 7 ba kb bb).1, .bool (joinB false 7 ba kb bb).2, .int .i64 0, .string ⟨#[]⟩, .slice none 0 0]] W fun e w' => e = .returned (truthV (notB (joinB false 7 ba kb bb).1 (joinB false 7 ba kb bb).2).1 (notB (joinB false 7 ba kb bb).1 (joinB false 7 ba kb bb).2).2) ∧ Below W.heap.size W w' := fun W => by
      have := not_any (joinB false 7 ba kb bb).1 0 (joinB false 7 ba kb bb).2 ⟨#[]⟩ none [] 0 W
      exact this
    have hN2 : ∀ W, Calls Tryd.prog 25 #[.agg #[.int .i64 7, .bool ba, .int .i64 na, .string sa, .slice Aa pa.length ca]] W fun e w' => e = .returned (truthV (notB 7 ba).1 (notB 7 ba).2) ∧ Below W.heap.size W w' := fun W => by
      have := not_any 7 na ba sa Aa pa ca W
      exact this
    have hN3 : ∀ W, Calls Tryd.prog 25 #[.agg #[.int .i64 kb, .bool bb, .int .i64 nb, .string sb, .slice Ab pb.length cb]] W fun e w' => e = .returned (truthV (notB kb bb).1 (notB kb bb).2) ∧ Below W.heap.size W w' := fun W => by
      have := not_any kb nb bb sb Ab pb cb W
      exact this
    have hO6 : ∀ W, Calls Tryd.prog 31 #[.agg #[.int .i64 (notB 7 ba).1, .bool (notB 7 ba).2, .int .i64 0, .string ⟨#[]⟩, .slice none 0 0], .agg #[.int .i64 (notB kb bb).1, .bool (notB kb bb).2, .int .i64 0, .string ⟨#[]⟩, .slice none 0 0]] W fun e w' => e = .returned (truthV (notB (joinB false 7 ba kb bb).1 (joinB false 7 ba kb bb).2).1 (notB (joinB false 7 ba kb bb).1 (joinB false 7 ba kb bb).2).2) ∧ Below W.heap.size W w' := fun W => by
      have := or_any (notB 7 ba).1 0 (notB 7 ba).2 ⟨#[]⟩ none [] 0 (notB kb bb).1 0 (notB kb bb).2 ⟨#[]⟩ none [] 0 W
      rw [show joinB true (notB 7 ba).1 (notB 7 ba).2 (notB kb bb).1 (notB kb bb).2 = notB (joinB false 7 ba kb bb).1 (joinB false 7 ba kb bb).2 from not_join ..] at this
      exact this
    have hN4 : ∀ W, Calls Tryd.prog 25 #[.agg #[.int .i64 (notB 7 ba).1, .bool (notB 7 ba).2, .int .i64 0, .string ⟨#[]⟩, .slice none 0 0]] W fun e w' => e = .returned (truthV 7 false) ∧ Below W.heap.size W w' := fun W => by
      have := not_any (notB 7 ba).1 0 (notB 7 ba).2 ⟨#[]⟩ none [] 0 W
      rw [show notB (notB 7 ba).1 (notB 7 ba).2 = (7, false) from by simp [notB]] at this
      exact this
    exact logic_7 na ba sa Aa pa ca kb nb bb sb Ab pb cb kc nc bc sc Ac pc cc w ht (joinB false 7 ba kb bb) (joinB false kb bb kc bc) (joinB false 7 ba (joinB false kb bb kc bc).1 (joinB false kb bb kc bc).2) (joinB true 7 ba kb bb) (joinB true kb bb kc bc) (joinB true 7 ba (joinB true kb bb kc bc).1 (joinB true kb bb kc bc).2) (notB (joinB false 7 ba kb bb).1 (joinB false 7 ba kb bb).2) (notB 7 ba) (notB kb bb) hA1 hA2 hA3 hA4 hA5 hO1 hO2 hO3 hO4 hO5 hN1 hN2 hN3 hO6 hN4
  exact logic_x ka na ba sa Aa pa ca kb nb bb sb Ab pb cb kc nc bc sc Ac pc cc w ht (bne_iff_ne.2 k1) (bne_iff_ne.2 k0) (bne_iff_ne.2 k7)
end Go.Proofs.YthafbdkjpgeopaaDoor
