/- The walk of the law ValueLine (a part). -/
import Derived.Test.YthafbdkjpgeopaaDoorLawW
import Derived.Test.YthafbdkjpgeopaaDoorEncS
import Derived.Test.YthafbdkjpgeopaaDoorSign
import Derived.Test.YthafbdkjpgeopaaDoorRegS
import Derived.Deep.Cut
import Derived.Deep.CutRange
set_option linter.unusedVariables false
set_option linter.unusedSimpArgs false
namespace Go.Proofs.YthafbdkjpgeopaaDoor
open Go.RowKit

set_option maxRecDepth 100000 in
set_option maxHeartbeats 12800000 in
theorem line_0 (ka : Int) (na : Int) (ba : Bool) (sa : ByteArray) (Aa : Option Addr) (pa : List Int) (ca : Nat) (kb : Int) (nb : Int) (bb : Bool) (sb : ByteArray) (Ab : Option Addr) (pb : List Int) (cb : Nat) (kc : Int) (nc : Int) (bc : Bool) (sc : ByteArray) (Ac : Option Addr) (pc : List Int) (cc : Nat) (w : World) (ht : Tabs w) (x y z : Int) 
    (hab : ∀ W, Below w.heap.size w W → Calls Tryd.prog 21 #[.agg #[.int .i64 ka, .bool ba, .int .i64 na, .string sa, .slice Aa pa.length ca], .agg #[.int .i64 kb, .bool bb, .int .i64 nb, .string sb, .slice Ab pb.length cb]] W fun e w' => e = .returned (.int .i64 x) ∧ Below W.heap.size W w')
    (hbc : ∀ W, Below w.heap.size w W → Calls Tryd.prog 21 #[.agg #[.int .i64 kb, .bool bb, .int .i64 nb, .string sb, .slice Ab pb.length cb], .agg #[.int .i64 kc, .bool bc, .int .i64 nc, .string sc, .slice Ac pc.length cc]] W fun e w' => e = .returned (.int .i64 y) ∧ Below W.heap.size W w')
    (hac : ∀ W, Below w.heap.size w W → Calls Tryd.prog 21 #[.agg #[.int .i64 ka, .bool ba, .int .i64 na, .string sa, .slice Aa pa.length ca], .agg #[.int .i64 kc, .bool bc, .int .i64 nc, .string sc, .slice Ac pc.length cc]] W fun e w' => e = .returned (.int .i64 z) ∧ Below W.heap.size W w')
    (hba : ∀ W, Below w.heap.size w W → Calls Tryd.prog 21 #[.agg #[.int .i64 kb, .bool bb, .int .i64 nb, .string sb, .slice Ab pb.length cb], .agg #[.int .i64 ka, .bool ba, .int .i64 na, .string sa, .slice Aa pa.length ca]] W fun e w' => e = .returned (.int .i64 (-x)) ∧ Below W.heap.size W w')
    (haa : ∀ W, Below w.heap.size w W → Calls Tryd.prog 21 #[.agg #[.int .i64 ka, .bool ba, .int .i64 na, .string sa, .slice Aa pa.length ca], .agg #[.int .i64 ka, .bool ba, .int .i64 na, .string sa, .slice Aa pa.length ca]] W fun e w' => e = .returned (.int .i64 0) ∧ Below W.heap.size W w')
    (hRa : ∀ W, Below w.heap.size w W → Calls Tryd.prog 22 #[.agg #[.int .i64 ka, .bool ba, .int .i64 na, .string sa, .slice Aa pa.length ca]] W fun e w' => e = .returned (.bool false) ∧ Below W.heap.size W w')
    (hx0 : -1 ≤ x) (hx1 : x ≤ 1) (hy0 : -1 ≤ y) (hy1 : y ≤ 1) (hz0 : -1 ≤ z) (hz1 : z ≤ 1) (hon : (decide (x > 0) || (decide (y > 0) || (decide (z ≤ 0) && ((x == 0 && y == 0) == (z == 0))))) = true) :
    Calls Tryd.prog 3 #[.agg #[.int .i64 ka, .bool ba, .int .i64 na, .string sa, .slice Aa pa.length ca], .agg #[.int .i64 kb, .bool bb, .int .i64 nb, .string sb, .slice Ab pb.length cb], .agg #[.int .i64 kc, .bool bc, .int .i64 nc, .string sc, .slice Ac pc.length cc]] w fun e w' => e = .returned (.bool true) ∧ Below w.heap.size w w' := by
  have hH := fun W (h : Below w.heap.size w W) => head_any W (ht.below h)
  have hS1 := fun W => sign_any x W hx0 hx1
  have hS2 := fun W => sign_any y W hy0 hy1
  have hS3 := fun W => sign_any z W hz0 hz1
  have hS4 := fun W => sign_any (-x) W (by omega) (by omega)
  have HON := Aside0.mk hon
  clear ht hon
  go_enter Tryd.func3, Tryd.ntmps3
  go_upto_region 6 with (first | (go_at_call 19; refine (hH _ (by repeat (first | exact Below.refl _ _ | assumption | apply below_more | apply below_drew | apply below_drewn | refine below_set ?_ (by simp <;> omega) _))).mono ?_; rintro e w0 ⟨rfl, hb1⟩; have hzw0 : w.heap.size + 1 + 1 < w0.heap.size := (by have := hb1.size; (try simp at this); omega); have hy0 : w.heap.size < w0.heap.size := (by omega); have hbx0 : ∀ i, w0.cell? ⟨w.heap.size, i, none⟩ = (#[.int .i64 ka, .bool ba, .int .i64 na, .string sa, .slice Aa pa.length ca] : Array Value)[i]? := (fun i => (hb1.cell (p := ⟨w.heap.size, i, none⟩) (by first | omega | (simp; done) | (simp; omega))).trans (by first | exact hbx0 i | simp [go_sem])); have hy1 : w.heap.size + 1 < w0.heap.size := (by omega); have hbx1 : ∀ i, w0.cell? ⟨w.heap.size + 1, i, none⟩ = (#[.int .i64 kb, .bool bb, .int .i64 nb, .string sb, .slice Ab pb.length cb] : Array Value)[i]? := (fun i => (hb1.cell (p := ⟨w.heap.size + 1, i, none⟩) (by first | omega | (simp; done) | (simp; omega))).trans (by first | exact hbx1 i | simp [go_sem])); have hy2 : w.heap.size + 1 + 1 < w0.heap.size := (by omega); have hbx2 : ∀ i, w0.cell? ⟨w.heap.size + 1 + 1, i, none⟩ = (#[.int .i64 kc, .bool bc, .int .i64 nc, .string sc, .slice Ac pc.length cc] : Array Value)[i]? := (fun i => (hb1.cell (p := ⟨w.heap.size + 1 + 1, i, none⟩) (by first | omega | (simp; done) | (simp; omega))).trans (by first | exact hbx2 i | simp [go_sem])); have HBw0 : Below w.heap.size w w0 := below_then (by repeat (first | exact Below.refl _ _ | assumption | apply below_more | apply below_drew | apply below_drewn | refine below_set ?_ (by simp <;> omega) _)) hb1; clear hb1) | ((first | (go_at_call 21; first | (with_reducible refine (hab _ ?_).mono ?_) | (with_reducible refine (hbc _ ?_).mono ?_) | (with_reducible refine (hac _ ?_).mono ?_) | (with_reducible refine (hba _ ?_).mono ?_) | (with_reducible refine (haa _ ?_).mono ?_))); exact (by repeat (first | exact Below.refl _ _ | assumption | apply below_more | apply below_drew | apply below_drewn | refine below_set ?_ (by simp <;> omega) _)); rintro e w5 ⟨rfl, hb1⟩; have hzw5 : w.heap.size + 1 + 1 < w5.heap.size := (by have := hb1.size; (try simp at this); omega); have hy0 : w.heap.size < w5.heap.size := (by omega); have hbx0 : ∀ i, w5.cell? ⟨w.heap.size, i, none⟩ = (#[.int .i64 ka, .bool ba, .int .i64 na, .string sa, .slice Aa pa.length ca] : Array Value)[i]? := (fun i => (hb1.cell (p := ⟨w.heap.size, i, none⟩) (by first | omega | (simp; done) | (simp; omega))).trans (by first | exact hbx0 i | simp [go_sem])); have hy1 : w.heap.size + 1 < w5.heap.size := (by omega); have hbx1 : ∀ i, w5.cell? ⟨w.heap.size + 1, i, none⟩ = (#[.int .i64 kb, .bool bb, .int .i64 nb, .string sb, .slice Ab pb.length cb] : Array Value)[i]? := (fun i => (hb1.cell (p := ⟨w.heap.size + 1, i, none⟩) (by first | omega | (simp; done) | (simp; omega))).trans (by first | exact hbx1 i | simp [go_sem])); have hy2 : w.heap.size + 1 + 1 < w5.heap.size := (by omega); have hbx2 : ∀ i, w5.cell? ⟨w.heap.size + 1 + 1, i, none⟩ = (#[.int .i64 kc, .bool bc, .int .i64 nc, .string sc, .slice Ac pc.length cc] : Array Value)[i]? := (fun i => (hb1.cell (p := ⟨w.heap.size + 1 + 1, i, none⟩) (by first | omega | (simp; done) | (simp; omega))).trans (by first | exact hbx2 i | simp [go_sem])); have HBw5 : Below w.heap.size w w5 := below_then (by repeat (first | exact Below.refl _ _ | assumption | apply below_more | apply below_drew | apply below_drewn | refine below_set ?_ (by simp <;> omega) _)) hb1; clear hb1) | ((go_at_call 20; first | (with_reducible refine (hS1 _).mono ?_) | (with_reducible refine (hS2 _).mono ?_) | (with_reducible refine (hS3 _).mono ?_) | (with_reducible refine (hS4 _).mono ?_)); rintro e w5 ⟨rfl, hb1⟩; have hzw5 : w.heap.size + 1 + 1 < w5.heap.size := (by have := hb1.size; (try simp at this); omega); have hy0 : w.heap.size < w5.heap.size := (by omega); have hbx0 : ∀ i, w5.cell? ⟨w.heap.size, i, none⟩ = (#[.int .i64 ka, .bool ba, .int .i64 na, .string sa, .slice Aa pa.length ca] : Array Value)[i]? := (fun i => (hb1.cell (p := ⟨w.heap.size, i, none⟩) (by first | omega | (simp; done) | (simp; omega))).trans (by first | exact hbx0 i | simp [go_sem])); have hy1 : w.heap.size + 1 < w5.heap.size := (by omega); have hbx1 : ∀ i, w5.cell? ⟨w.heap.size + 1, i, none⟩ = (#[.int .i64 kb, .bool bb, .int .i64 nb, .string sb, .slice Ab pb.length cb] : Array Value)[i]? := (fun i => (hb1.cell (p := ⟨w.heap.size + 1, i, none⟩) (by first | omega | (simp; done) | (simp; omega))).trans (by first | exact hbx1 i | simp [go_sem])); have hy2 : w.heap.size + 1 + 1 < w5.heap.size := (by omega); have hbx2 : ∀ i, w5.cell? ⟨w.heap.size + 1 + 1, i, none⟩ = (#[.int .i64 kc, .bool bc, .int .i64 nc, .string sc, .slice Ac pc.length cc] : Array Value)[i]? := (fun i => (hb1.cell (p := ⟨w.heap.size + 1 + 1, i, none⟩) (by first | omega | (simp; done) | (simp; omega))).trans (by first | exact hbx2 i | simp [go_sem])); have HBw5 : Below w.heap.size w w5 := below_then (by repeat (first | exact Below.refl _ _ | assumption | apply below_more | apply below_drew | apply below_drewn | refine below_set ?_ (by simp <;> omega) _)) hb1; clear hb1))
  go_cut [12] from 14 (fun s12 wx => s12 = .bool true ∧ wx = w5)
  case first =>
    have hon := HON.out
    clear hab hbc hac hba haa hS1 hS2 hS3 hS4 hH hRa HON hbx0 hbx1 hbx2
    rcases (show x = -1 ∨ x = 0 ∨ x = 1 by omega) with rfl | rfl | rfl <;> rcases (show y = -1 ∨ y = 0 ∨ y = 1 by omega) with rfl | rfl | rfl <;> rcases (show z = -1 ∨ z = 0 ∨ z = 1 by omega) with rfl | rfl | rfl <;>
    first
      | (exfalso; revert hon; decide)
      | (go_wp2_with (fail); go_meet; exact ⟨rfl, rfl⟩)
  case rest =>
    obtain ⟨rfl, rfl⟩ := hcut
    go_upto_region 7 with (fail)
    refine wp_region_held_drew (S := (fun w' => w'.cell? ⟨w.heap.size, 0, none⟩ = some (.int .i64 ka) ∧ w'.cell? ⟨w.heap.size, 1, none⟩ = some (.bool ba) ∧ w'.cell? ⟨w.heap.size, 2, none⟩ = some (.int .i64 na) ∧ w'.cell? ⟨w.heap.size, 3, none⟩ = some (.string sa) ∧ w'.cell? ⟨w.heap.size, 4, none⟩ = some (.slice Aa pa.length ca) ∧ w'.cell? ⟨w.heap.size + 1, 0, none⟩ = some (.int .i64 kb) ∧ w'.cell? ⟨w.heap.size + 1, 1, none⟩ = some (.bool bb) ∧ w'.cell? ⟨w.heap.size + 1, 2, none⟩ = some (.int .i64 nb) ∧ w'.cell? ⟨w.heap.size + 1, 3, none⟩ = some (.string sb) ∧ w'.cell? ⟨w.heap.size + 1, 4, none⟩ = some (.slice Ab pb.length cb) ∧ w'.cell? ⟨w.heap.size + 1 + 1, 0, none⟩ = some (.int .i64 kc) ∧ w'.cell? ⟨w.heap.size + 1 + 1, 1, none⟩ = some (.bool bc) ∧ w'.cell? ⟨w.heap.size + 1 + 1, 2, none⟩ = some (.int .i64 nc) ∧ w'.cell? ⟨w.heap.size + 1 + 1, 3, none⟩ = some (.string sc) ∧ w'.cell? ⟨w.heap.size + 1 + 1, 4, none⟩ = some (.slice Ac pc.length cc))) (by kernel_rfl) ?_ (fun hHeld => ?_)
    · (first | go_keep | exact ⟨hbx0 0, hbx0 1, hbx0 2, hbx0 3, hbx0 4, hbx1 0, hbx1 1, hbx1 2, hbx1 3, hbx1 4, hbx2 0, hbx2 1, hbx2 2, hbx2 3, hbx2 4⟩)
    refine take_in (i := 0) (v := ?v0) rfl (by kernel_rfl) (by kernel_rfl) (by kernel_rfl) (fun _ _ _ h => h) (by rfl) ?hy0 (by assumption) ?_
    case hy0 => intro WW hSw; (try dsimp only at hSw); go_simp; try with_reducible rfl
    try simp only [Act.put, List.setIfInBounds_toArray, List.set_cons_zero, List.set_cons_succ]
    refine one_step (i := 1) (by kernel_rfl) rfl (fun K hK => ?_)
    go_simp
    first | ((first | (go_at_call 22; first | (with_reducible refine (hRa _ ?_).mono ?_))); exact (by repeat (first | exact Below.refl _ _ | assumption | apply below_more | apply below_drew | apply below_drewn | refine below_set ?_ (by simp <;> omega) _)); rintro e w5 ⟨rfl, hb1⟩; have hzw5 : w.heap.size + 1 + 1 < w5.heap.size := (by have := hb1.size; (try simp at this); omega); have hy0 : w.heap.size < w5.heap.size := (by omega); have hbx0 : ∀ i, w5.cell? ⟨w.heap.size, i, none⟩ = (#[.int .i64 ka, .bool ba, .int .i64 na, .string sa, .slice Aa pa.length ca] : Array Value)[i]? := (fun i => (hb1.cell (p := ⟨w.heap.size, i, none⟩) (by first | omega | (simp; done) | (simp; omega))).trans (by first | exact hbx0 i | simp [go_sem])); have hy1 : w.heap.size + 1 < w5.heap.size := (by omega); have hbx1 : ∀ i, w5.cell? ⟨w.heap.size + 1, i, none⟩ = (#[.int .i64 kb, .bool bb, .int .i64 nb, .string sb, .slice Ab pb.length cb] : Array Value)[i]? := (fun i => (hb1.cell (p := ⟨w.heap.size + 1, i, none⟩) (by first | omega | (simp; done) | (simp; omega))).trans (by first | exact hbx1 i | simp [go_sem])); have hy2 : w.heap.size + 1 + 1 < w5.heap.size := (by omega); have hbx2 : ∀ i, w5.cell? ⟨w.heap.size + 1 + 1, i, none⟩ = (#[.int .i64 kc, .bool bc, .int .i64 nc, .string sc, .slice Ac pc.length cc] : Array Value)[i]? := (fun i => (hb1.cell (p := ⟨w.heap.size + 1 + 1, i, none⟩) (by first | omega | (simp; done) | (simp; omega))).trans (by first | exact hbx2 i | simp [go_sem])); have HBw5 : Below w.heap.size w w5 := below_then (by repeat (first | exact Below.refl _ _ | assumption | apply below_more | apply below_drew | apply below_drewn | refine below_set ?_ (by simp <;> omega) _)) hb1; clear hb1)
    refine hK.out _ _ ?_ (fun hHeld => ?_)
    · (first | go_keep | exact ⟨hbx0 0, hbx0 1, hbx0 2, hbx0 3, hbx0 4, hbx1 0, hbx1 1, hbx1 2, hbx1 3, hbx1 4, hbx2 0, hbx2 1, hbx2 2, hbx2 3, hbx2 4⟩)
    clear hK K
    try simp only [Act.put, List.setIfInBounds_toArray, List.set_cons_zero, List.set_cons_succ]
    refine take_in (i := 2) (v := ?v2) rfl (by kernel_rfl) (by kernel_rfl) (by kernel_rfl) (fun _ _ _ h => h) (by rfl) ?hy2 (by assumption) ?_
    case hy2 => intro WW hSw; (try dsimp only at hSw); go_simp; try with_reducible rfl
    try simp only [Act.put, List.setIfInBounds_toArray, List.set_cons_zero, List.set_cons_succ]
    refine take_in (i := 3) (v := ?v3) rfl (by kernel_rfl) (by kernel_rfl) (by kernel_rfl) (fun _ _ _ h => h) (by rfl) ?hy3 (by assumption) ?_
    case hy3 => intro WW hSw; (try dsimp only at hSw); go_simp; try with_reducible rfl
    try simp only [Act.put, List.setIfInBounds_toArray, List.set_cons_zero, List.set_cons_succ]
    refine take_out (i := 4) rfl (by kernel_rfl) (by kernel_rfl) (by kernel_rfl) (fun _ _ _ h => h) (by rfl) (by assumption) ?_
    try simp only [Act.put, List.setIfInBounds_toArray, List.set_cons_zero, List.set_cons_succ]
    refine take_out (i := 5) rfl (by kernel_rfl) (by kernel_rfl) (by kernel_rfl) (fun _ _ _ h => h) (by rfl) (by assumption) ?_
    try simp only [Act.put, List.setIfInBounds_toArray, List.set_cons_zero, List.set_cons_succ]
    refine take_out (i := 6) rfl (by kernel_rfl) (by kernel_rfl) (by kernel_rfl) (fun _ _ _ h => h) (by rfl) (by assumption) ?_
    try simp only [Act.put, List.setIfInBounds_toArray, List.set_cons_zero, List.set_cons_succ]
    refine take_in (i := 7) (v := ?v7) rfl (by kernel_rfl) (by kernel_rfl) (by kernel_rfl) (fun _ _ _ h => h) (by rfl) ?hy7 (by assumption) ?_
    case hy7 => intro WW hSw; (try dsimp only at hSw); go_simp; try with_reducible rfl
    try simp only [Act.put, List.setIfInBounds_toArray, List.set_cons_zero, List.set_cons_succ]
    refine take_in (i := 8) (v := ?v8) rfl (by kernel_rfl) (by kernel_rfl) (by kernel_rfl) (fun _ _ _ h => h) (by rfl) ?hy8 (by assumption) ?_
    case hy8 => intro WW hSw; (try dsimp only at hSw); go_simp; try with_reducible rfl
    try simp only [Act.put, List.setIfInBounds_toArray, List.set_cons_zero, List.set_cons_succ]
    refine take_out (i := 9) rfl (by kernel_rfl) (by kernel_rfl) (by kernel_rfl) (fun _ _ _ h => h) (by rfl) (by assumption) ?_
    try simp only [Act.put, List.setIfInBounds_toArray, List.set_cons_zero, List.set_cons_succ]
    refine take_out (i := 10) rfl (by kernel_rfl) (by kernel_rfl) (by kernel_rfl) (fun _ _ _ h => h) (by rfl) (by assumption) ?_
    try simp only [Act.put, List.setIfInBounds_toArray, List.set_cons_zero, List.set_cons_succ]
    refine take_out (i := 11) rfl (by kernel_rfl) (by kernel_rfl) (by kernel_rfl) (fun _ _ _ h => h) (by rfl) (by assumption) ?_
    try simp only [Act.put, List.setIfInBounds_toArray, List.set_cons_zero, List.set_cons_succ]
    refine take_out (i := 12) rfl (by kernel_rfl) (by kernel_rfl) (by kernel_rfl) (fun _ _ _ h => h) (by rfl) (by assumption) ?_
    try simp only [Act.put, List.setIfInBounds_toArray, List.set_cons_zero, List.set_cons_succ]
    refine take_out (i := 13) rfl (by kernel_rfl) (by kernel_rfl) (by kernel_rfl) (fun _ _ _ h => h) (by rfl) (by assumption) ?_
    try simp only [Act.put, List.setIfInBounds_toArray, List.set_cons_zero, List.set_cons_succ]
    refine take_out (i := 14) rfl (by kernel_rfl) (by kernel_rfl) (by kernel_rfl) (fun _ _ _ h => h) (by rfl) (by assumption) ?_
    try simp only [Act.put, List.setIfInBounds_toArray, List.set_cons_zero, List.set_cons_succ]
    refine take_out (i := 15) rfl (by kernel_rfl) (by kernel_rfl) (by kernel_rfl) (fun _ _ _ h => h) (by rfl) (by assumption) ?_
    try simp only [Act.put, List.setIfInBounds_toArray, List.set_cons_zero, List.set_cons_succ]
    refine take_out (i := 16) rfl (by kernel_rfl) (by kernel_rfl) (by kernel_rfl) (fun _ _ _ h => h) (by rfl) (by assumption) ?_
    try simp only [Act.put, List.setIfInBounds_toArray, List.set_cons_zero, List.set_cons_succ]
    refine take_out (i := 17) rfl (by kernel_rfl) (by kernel_rfl) (by kernel_rfl) (fun _ _ _ h => h) (by rfl) (by assumption) ?_
    try simp only [Act.put, List.setIfInBounds_toArray, List.set_cons_zero, List.set_cons_succ]
    refine take_out (i := 18) rfl (by kernel_rfl) (by kernel_rfl) (by kernel_rfl) (fun _ _ _ h => h) (by rfl) (by assumption) ?_
    try simp only [Act.put, List.setIfInBounds_toArray, List.set_cons_zero, List.set_cons_succ]
    refine take_in (i := 19) (v := ?v19) rfl (by kernel_rfl) (by kernel_rfl) (by kernel_rfl) (fun _ _ _ h => h) (by rfl) ?hy19 (by assumption) ?_
    case hy19 => intro WW hSw; (try dsimp only at hSw); go_simp; try with_reducible rfl
    try simp only [Act.put, List.setIfInBounds_toArray, List.set_cons_zero, List.set_cons_succ]
    refine take_in (i := 20) (v := ?v20) rfl (by kernel_rfl) (by kernel_rfl) (by kernel_rfl) (fun _ _ _ h => h) (by rfl) ?hy20 (by assumption) ?_
    case hy20 => intro WW hSw; (try dsimp only at hSw); go_simp; try with_reducible rfl
    try simp only [Act.put, List.setIfInBounds_toArray, List.set_cons_zero, List.set_cons_succ]
    refine wpAnyH_done (by kernel_rfl) ?_ _
    go_wp2_with (fail)
    go_ret
    exact ⟨rfl, (by repeat (first | exact Below.refl _ _ | assumption | apply below_more | apply below_drew | apply below_drewn | refine below_set ?_ (by simp <;> omega) _))⟩
end Go.Proofs.YthafbdkjpgeopaaDoor
