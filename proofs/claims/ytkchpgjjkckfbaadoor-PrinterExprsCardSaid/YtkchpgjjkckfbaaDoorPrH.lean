/- The printer's shapeOf: what an Op is written with, Op by Op. -/
import Derived.Test.YtkchpgjjkckfbaaDoorPrHb
import Derived.Test.YtkchpgjjkckfbaaDoorPrHc
import Derived.Test.YtkchpgjjkckfbaaDoorPrHd
import Derived.Test.YtkchpgjjkckfbaaDoorPrHe
set_option linter.unusedVariables false
set_option linter.unusedSimpArgs false
namespace Go.Proofs.YtkchpgjjkckfbaaDoor
open Go.RowKit

theorem shape_any (k : Int) (w : World) : Calls Tryd.prog 36 #[.int .i64 k] w (shapeQ ((shpD k).getD Shp.zero) w) := by
  by_cases h1 : k = 1
  · subst h1
    exact shape_1 w
  have e1 : (k == 1) = false := beq_eq_false_iff_ne.2 h1
  by_cases h2 : k = 2
  · subst h2
    exact shape_2 w
  have e2 : (k == 2) = false := beq_eq_false_iff_ne.2 h2
  by_cases h3 : k = 3
  · subst h3
    exact shape_3 w
  have e3 : (k == 3) = false := beq_eq_false_iff_ne.2 h3
  by_cases h4 : k = 4
  · subst h4
    exact shape_4 w
  have e4 : (k == 4) = false := beq_eq_false_iff_ne.2 h4
  by_cases h5 : k = 5
  · subst h5
    exact shape_5 w
  have e5 : (k == 5) = false := beq_eq_false_iff_ne.2 h5
  by_cases h6 : k = 6
  · subst h6
    exact shape_6 w
  have e6 : (k == 6) = false := beq_eq_false_iff_ne.2 h6
  by_cases h7 : k = 7
  · subst h7
    exact shape_7 w
  have e7 : (k == 7) = false := beq_eq_false_iff_ne.2 h7
  by_cases h8 : k = 8
  · subst h8
    exact shape_8 w
  have e8 : (k == 8) = false := beq_eq_false_iff_ne.2 h8
  by_cases h9 : k = 9
  · subst h9
    exact shape_9 w
  have e9 : (k == 9) = false := beq_eq_false_iff_ne.2 h9
  by_cases h10 : k = 10
  · subst h10
    exact shape_10 w
  have e10 : (k == 10) = false := beq_eq_false_iff_ne.2 h10
  by_cases h11 : k = 11
  · subst h11
    exact shape_11 w
  have e11 : (k == 11) = false := beq_eq_false_iff_ne.2 h11
  by_cases h12 : k = 12
  · subst h12
    exact shape_12 w
  have e12 : (k == 12) = false := beq_eq_false_iff_ne.2 h12
  by_cases h13 : k = 13
  · subst h13
    exact shape_13 w
  have e13 : (k == 13) = false := beq_eq_false_iff_ne.2 h13
  by_cases h14 : k = 14
  · subst h14
    exact shape_14 w
  have e14 : (k == 14) = false := beq_eq_false_iff_ne.2 h14
  by_cases h15 : k = 15
  · subst h15
    exact shape_15 w
  have e15 : (k == 15) = false := beq_eq_false_iff_ne.2 h15
  by_cases h16 : k = 16
  · subst h16
    exact shape_16 w
  have e16 : (k == 16) = false := beq_eq_false_iff_ne.2 h16
  by_cases h17 : k = 17
  · subst h17
    exact shape_17 w
  have e17 : (k == 17) = false := beq_eq_false_iff_ne.2 h17
  by_cases h18 : k = 18
  · subst h18
    exact shape_18 w
  have e18 : (k == 18) = false := beq_eq_false_iff_ne.2 h18
  by_cases h19 : k = 19
  · subst h19
    exact shape_19 w
  have e19 : (k == 19) = false := beq_eq_false_iff_ne.2 h19
  by_cases h20 : k = 20
  · subst h20
    exact shape_20 w
  have e20 : (k == 20) = false := beq_eq_false_iff_ne.2 h20
  by_cases h21 : k = 21
  · subst h21
    exact shape_21 w
  have e21 : (k == 21) = false := beq_eq_false_iff_ne.2 h21
  by_cases h22 : k = 22
  · subst h22
    exact shape_22 w
  have e22 : (k == 22) = false := beq_eq_false_iff_ne.2 h22
  by_cases h23 : k = 23
  · subst h23
    exact shape_23 w
  have e23 : (k == 23) = false := beq_eq_false_iff_ne.2 h23
  by_cases h24 : k = 24
  · subst h24
    exact shape_24 w
  have e24 : (k == 24) = false := beq_eq_false_iff_ne.2 h24
  by_cases h25 : k = 25
  · subst h25
    exact shape_25 w
  have e25 : (k == 25) = false := beq_eq_false_iff_ne.2 h25
  by_cases h26 : k = 26
  · subst h26
    exact shape_26 w
  have e26 : (k == 26) = false := beq_eq_false_iff_ne.2 h26
  have hs : shpD k = none := by
    unfold shpD
    rw [if_neg h1, if_neg h2, if_neg h3, if_neg h4, if_neg h5, if_neg h6, if_neg h7, if_neg h8, if_neg h9, if_neg h10, if_neg h11, if_neg h12, if_neg h13, if_neg h14, if_neg h15, if_neg h16, if_neg h17, if_neg h18, if_neg h19, if_neg h20, if_neg h21, if_neg h22, if_neg h23, if_neg h24, if_neg h25, if_neg h26]
  rw [hs]
  exact shape_none k e1 e2 e3 e4 e5 e6 e7 e8 e9 e10 e11 e12 e13 e14 e15 e16 e17 e18 e19 e20 e21 e22 e23 e24 e25 e26 w
end Go.Proofs.YtkchpgjjkckfbaaDoor
