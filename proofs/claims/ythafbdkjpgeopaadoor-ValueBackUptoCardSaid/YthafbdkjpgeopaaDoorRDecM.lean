/- The reference's Decode, kind by kind: nulls, truths, numbers. The reference's Decode: places that are none, and kinds that are none. The reference's Decode, kind by kind: texts that are none. The reference's Decode, kind by kind: texts that fit. The reference's Decode, kind by kind: paths. The reference's Decode, whole. -/
import Derived.Test.YthafbdkjpgeopaaDoorDecW
import Derived.Test.YthafbdkjpgeopaaDoorRRight
import Derived.WalkMore
set_option linter.unusedVariables false
set_option linter.unusedSimpArgs false
namespace Go.Proofs.YthafbdkjpgeopaaDoor
open Go.RowKit

set_option maxRecDepth 100000 in
set_option maxHeartbeats 3200000 in
theorem rdec_0 (A : Option Addr) (bs : List Int) (c : Nat) (i : Nat) (w : World) (hr : ReadsB w A bs) (hbt : ∀ x ∈ bs, 0 ≤ x ∧ x < 256) (hi : i < bs.length) (hil : i ≤ 9223372036854770000) (hk : bs.getD i 0 = 0) (hT : Lib.Utf8Tabs 0 1 w) :
    Calls Tryd.prog 44 #[.slice A bs.length c, .int .i64 (i : Int)] w fun e w' => e = .returned (.tuple #[.agg #[.int .i64 0, .bool false, .int .i64 0, .string ⟨#[]⟩, .slice none 0 0], .int .i64 ((i : Int) + 1), .int .i64 0]) ∧ Below w.heap.size w w' := by
  have htk : ∀ (q n : Nat) W, Below w.heap.size w W → n ≤ 8 → q ≤ 9223372036854775000 → Calls Tryd.prog 71 #[.slice A bs.length c, .int .i64 (q : Int), .int .i64 (n : Int)] W fun e w' => e = .returned (.tuple #[.int .u64 (takeV bs q n), .bool (takeB bs q n)]) ∧ Below W.heap.size W w' := fun q n W hW hn hq => rtake_any A bs c q n W (hr.below hW) hbt hn hq
  obtain ⟨ad, rfl, hcell⟩ := hr.2 (by omega)
  have hci : ∀ W, Below w.heap.size w W → W.cell? (ad.add i) = some (.int .u8 0) := fun W hW => by
    obtain ⟨ad', e, h⟩ := (hr.below hW).2 (by omega)
    cases e
    rw [h i hi, hk]
  have hmx := hr.1
  have hRR : rightB 0 false 0 ⟨#[]⟩ [] = true := by decide
  obtain ⟨m, hm⟩ : ∃ m, m = bs.length := ⟨_, rfl⟩
  rw [← hm] at hi hmx htk ⊢
  have hii : (i : Int) < (m : Int) := by omega
  have hi0 : (0 : Int) ≤ (i : Int) := by omega
  have hi9 : (i : Int) ≤ 9223372036854770000 := by omega
  have hmi : (m : Int) ≤ 9223372036854775807 := by omega
  have HM := Aside0.mk hm
  have HR := Aside0.mk hr
  have HCI := Aside0.mk hci
  have HT := Aside0.mk hT
  have HRR := Aside0.mk hRR
  clear hm hr hk hcell hci hT hbt hRR
  try clear hright
  go_enter Tryd.func44, Tryd.ntmps44
  go_upto_region 1 with (fail)
  obtain ⟨W1, hW1⟩ : ∃ W1, W1 = w.alloc (.cells #[.int .i64 0, .bool false, .int .i64 0, .string ⟨#[]⟩, .slice none 0 0] 25) := ⟨_, rfl⟩
  rw [← hW1]
  have HB1 : Below w.heap.size w W1 := by rw [hW1]; exact below_more (Below.refl _ _) _
  have xr1 : Box W1 w.heap.size #[.int .i64 0, .bool false, .int .i64 0, .string ⟨#[]⟩, .slice none 0 0] := by rw [hW1]; exact Box.new w _
  have hcx := HCI.out W1 HB1
  clear hW1
  have hnm : ¬ (m : Int) ≤ (i : Int) := by omega
  have hnm2 : ¬ m ≤ i := by omega
  go_upto_region 3 with (fail)
  go_upto_region 4 with (fail)
  obtain ⟨W2, hW2⟩ : ∃ W2, W2 = W1.alloc (.cells #[.int .i64 0, .bool false, .int .i64 0, .string ⟨#[]⟩, .slice none 0 0] 25) := ⟨_, rfl⟩
  obtain ⟨b1, hb1⟩ : ∃ b1, b1 = W1.heap.size := ⟨_, rfl⟩
  rw [← hW2, ← hb1]
  have hb1w : w.heap.size < b1 := by rw [hb1]; exact xr1.lt
  have hne1 : w.heap.size ≠ b1 := by omega
  have hne2 : b1 ≠ w.heap.size := by omega
  have HBW2 : Below w.heap.size w W2 := by rw [hW2]; exact below_more HB1 _
  have xrW2 : Box W2 w.heap.size #[.int .i64 0, .bool false, .int .i64 0, .string ⟨#[]⟩, .slice none 0 0] := by rw [hW2]; exact xr1.more _
  have xvW2 : Box W2 b1 #[.int .i64 0, .bool false, .int .i64 0, .string ⟨#[]⟩, .slice none 0 0] := by rw [hW2, hb1]; exact Box.new W1 _
  have hbrW2 := xrW2.cells
  have hbvW2 := xvW2.cells
  have hfrW2 := xrW2.free
  have hfvW2 := xvW2.free
  clear hW2 hb1 xr1 HB1 hcx
  have hRt := rright_any 0 0 false ⟨#[]⟩ none [] 0 W2 ⟨by decide, fun h => absurd h (by decide)⟩ (by decide) (Utf8Tabs_below HT.out HBW2)
  rw [HRR.out] at hRt
  go_wp2_with (go_at_call 38; refine hRt.mono ?_)
  first
    | (intro e W6 he hb6; subst he)
    | rintro e W6 ⟨rfl, hb6⟩
  have HBW6 := below_then HBW2 hb6
  have xrW6 := xrW2.kept hb6
  have xvW6 := xvW2.kept hb6
  have hbrW6 := xrW6.cells
  have hbvW6 := xvW6.cells
  have hfrW6 := xrW6.free
  have hfvW6 := xvW6.free
  clear hb6 hRt
  clear xrW2 xvW2 hbrW2 hbvW2 hfrW2 hfvW2 HBW2
  go_wp2
  obtain ⟨W7, hW7⟩ : ∃ W7, W7 = (((((W6.setCell ⟨w.heap.size, 0, none⟩ (.int .i64 0)).setCell ⟨w.heap.size, 1, none⟩ (.bool false)).setCell ⟨w.heap.size, 2, none⟩ (.int .i64 0)).setCell ⟨w.heap.size, 3, none⟩ (.string ⟨#[]⟩)).setCell ⟨w.heap.size, 4, none⟩ (.slice none 0 0)) := ⟨_, rfl⟩
  rw [← hW7]
  have HB7 : Below w.heap.size w W7 := by rw [hW7]; exact below_set (below_set (below_set (below_set (below_set HBW6 (Nat.le_refl _) _) (Nat.le_refl _) _) (Nat.le_refl _) _) (Nat.le_refl _) _) (Nat.le_refl _) _
  have xr7 : Box W7 w.heap.size #[.int .i64 0, .bool false, .int .i64 0, .string ⟨#[]⟩, .slice none 0 0] := by rw [hW7]; exact ((((xrW6.put 0 _).put 1 _).put 2 _).put 3 _).put 4 _
  refine bodyPost_ret (results_c3 _ rfl rfl (box_load xr7 rfl rfl rfl rfl rfl)) rfl ?_
  exact ⟨rfl, HB7⟩
set_option maxRecDepth 100000 in
set_option maxHeartbeats 3200000 in
theorem rdec_2_ok (A : Option Addr) (bs : List Int) (c : Nat) (i : Nat) (w : World) (hr : ReadsB w A bs) (hbt : ∀ x ∈ bs, 0 ≤ x ∧ x < 256) (hi : i < bs.length) (hil : i ≤ 9223372036854770000) (hk : bs.getD i 0 = 2) (hf : i + 1 + 8 ≤ bs.length) (hright : rightB 2 false (sgn (beI ((bs.drop (i + 1)).take 8))) ⟨#[]⟩ [] = true) (hT : Lib.Utf8Tabs 0 1 w) :
    Calls Tryd.prog 44 #[.slice A bs.length c, .int .i64 (i : Int)] w fun e w' => e = .returned (.tuple #[.agg #[.int .i64 2, .bool false, .int .i64 (sgn (beI ((bs.drop (i + 1)).take 8))), .string ⟨#[]⟩, .slice none 0 0], .int .i64 ((i : Int) + 9), .int .i64 0]) ∧ Below w.heap.size w w' := by
  have htk : ∀ (q n : Nat) W, Below w.heap.size w W → n ≤ 8 → q ≤ 9223372036854775000 → Calls Tryd.prog 71 #[.slice A bs.length c, .int .i64 (q : Int), .int .i64 (n : Int)] W fun e w' => e = .returned (.tuple #[.int .u64 (takeV bs q n), .bool (takeB bs q n)]) ∧ Below W.heap.size W w' := fun q n W hW hn hq => rtake_any A bs c q n W (hr.below hW) hbt hn hq
  obtain ⟨ad, rfl, hcell⟩ := hr.2 (by omega)
  have hci : ∀ W, Below w.heap.size w W → W.cell? (ad.add i) = some (.int .u8 2) := fun W hW => by
    obtain ⟨ad', e, h⟩ := (hr.below hW).2 (by omega)
    cases e
    rw [h i hi, hk]
  have hmx := hr.1
  have hV : takeV bs (i + 1) 8 = beI ((bs.drop (i + 1)).take 8) := if_pos hf
  have hB : takeB bs (i + 1) 8 = true := decide_eq_true hf
  have hRR := hright
  generalize hxx : beI ((bs.drop (i + 1)).take 8) = x at hV hRR
  have hcw : ∀ W, (convert 43 2 (.int .u64 x)).run Tryd.prog W = .ok (.int .i64 (sgn x)) W := fun W => by
    go_simp
    first | done | rfl
  generalize hyy : sgn x = y at hcw hRR
  obtain ⟨m, hm⟩ : ∃ m, m = bs.length := ⟨_, rfl⟩
  rw [← hm] at hi hmx htk ⊢
  have hii : (i : Int) < (m : Int) := by omega
  have hi0 : (0 : Int) ≤ (i : Int) := by omega
  have hi9 : (i : Int) ≤ 9223372036854770000 := by omega
  have hmi : (m : Int) ≤ 9223372036854775807 := by omega
  have HM := Aside0.mk hm
  have HR := Aside0.mk hr
  have HCI := Aside0.mk hci
  have HT := Aside0.mk hT
  have HRR := Aside0.mk hRR
  clear hm hr hk hcell hci hT hbt hRR
  try clear hright
  go_enter Tryd.func44, Tryd.ntmps44
  go_upto_region 1 with (fail)
  obtain ⟨W1, hW1⟩ : ∃ W1, W1 = w.alloc (.cells #[.int .i64 0, .bool false, .int .i64 0, .string ⟨#[]⟩, .slice none 0 0] 25) := ⟨_, rfl⟩
  rw [← hW1]
  have HB1 : Below w.heap.size w W1 := by rw [hW1]; exact below_more (Below.refl _ _) _
  have xr1 : Box W1 w.heap.size #[.int .i64 0, .bool false, .int .i64 0, .string ⟨#[]⟩, .slice none 0 0] := by rw [hW1]; exact Box.new w _
  have hcx := HCI.out W1 HB1
  clear hW1
  have hnm : ¬ (m : Int) ≤ (i : Int) := by omega
  have hnm2 : ¬ m ≤ i := by omega
  go_upto_region 3 with (fail)
  go_upto_region 4 with (fail)
  obtain ⟨W2, hW2⟩ : ∃ W2, W2 = W1.alloc (.cells #[.int .i64 2, .bool false, .int .i64 0, .string ⟨#[]⟩, .slice none 0 0] 25) := ⟨_, rfl⟩
  obtain ⟨b1, hb1⟩ : ∃ b1, b1 = W1.heap.size := ⟨_, rfl⟩
  rw [← hW2, ← hb1]
  have hb1w : w.heap.size < b1 := by rw [hb1]; exact xr1.lt
  have hne1 : w.heap.size ≠ b1 := by omega
  have hne2 : b1 ≠ w.heap.size := by omega
  have HBW2 : Below w.heap.size w W2 := by rw [hW2]; exact below_more HB1 _
  have xrW2 : Box W2 w.heap.size #[.int .i64 0, .bool false, .int .i64 0, .string ⟨#[]⟩, .slice none 0 0] := by rw [hW2]; exact xr1.more _
  have xvW2 : Box W2 b1 #[.int .i64 2, .bool false, .int .i64 0, .string ⟨#[]⟩, .slice none 0 0] := by rw [hW2, hb1]; exact Box.new W1 _
  have hbrW2 := xrW2.cells
  have hbvW2 := xvW2.cells
  have hfrW2 := xrW2.free
  have hfvW2 := xvW2.free
  clear hW2 hb1 xr1 HB1 hcx
  have ht := fun W (h : Below w.heap.size w W) => htk (i + 1) 8 W h (by decide) (by omega)
  rw [hV, hB] at ht
  have hi1 : ((i + 1 : Nat) : Int) = (i : Int) + 1 := by omega
  have HI1 := Aside0.mk hi1
  rw [hi1] at ht
  clear hi1 htk
  go_wp2_with (go_at_call 71; go_loud (refine (ht _ HBW2).mono ?_))
  first
    | (intro e W3 he hb3; subst he)
    | rintro e W3 ⟨rfl, hb3⟩
  have HBW3 := below_then HBW2 hb3
  have xrW3 := xrW2.kept hb3
  have xvW3 := xvW2.kept hb3
  have hbrW3 := xrW3.cells
  have hbvW3 := xvW3.cells
  have hfrW3 := xrW3.free
  have hfvW3 := xvW3.free
  clear hb3 ht
  clear xrW2 xvW2 hbrW2 hbvW2 hfrW2 hfvW2 HBW2
  go_upto_region 18 with (fail)
  obtain ⟨W4, hW4⟩ : ∃ W, W = W3.setCell ⟨b1, 2, none⟩ (.int .i64 y) := ⟨_, rfl⟩
  rw [← hW4]
  have HBW4 : Below w.heap.size w W4 := by rw [hW4]; exact below_set HBW3 (Nat.le_of_lt hb1w) _
  have xrW4 : Box W4 w.heap.size #[.int .i64 0, .bool false, .int .i64 0, .string ⟨#[]⟩, .slice none 0 0] := by rw [hW4]; exact xrW3.off _ _ (by simp; omega)
  have xvW4 : Box W4 b1 #[.int .i64 2, .bool false, .int .i64 y, .string ⟨#[]⟩, .slice none 0 0] := by rw [hW4]; exact xvW3.put 2 _
  have hbrW4 := xrW4.cells
  have hbvW4 := xvW4.cells
  have hfrW4 := xrW4.free
  have hfvW4 := xvW4.free
  clear hW4
  clear xrW3 xvW3 hbrW3 hbvW3 hfrW3 hfvW3 HBW3
  have hRt := rright_any 2 y false ⟨#[]⟩ none [] 0 W4 ⟨by decide, fun h => absurd h (by decide)⟩ (by decide) (Utf8Tabs_below HT.out HBW4)
  rw [HRR.out] at hRt
  go_wp2_with (go_at_call 38; refine hRt.mono ?_)
  first
    | (intro e W6 he hb6; subst he)
    | rintro e W6 ⟨rfl, hb6⟩
  have HBW6 := below_then HBW4 hb6
  have xrW6 := xrW4.kept hb6
  have xvW6 := xvW4.kept hb6
  have hbrW6 := xrW6.cells
  have hbvW6 := xvW6.cells
  have hfrW6 := xrW6.free
  have hfvW6 := xvW6.free
  clear hb6 hRt
  clear xrW4 xvW4 hbrW4 hbvW4 hfrW4 hfvW4 HBW4
  go_wp2
  obtain ⟨W7, hW7⟩ : ∃ W7, W7 = (((((W6.setCell ⟨w.heap.size, 0, none⟩ (.int .i64 2)).setCell ⟨w.heap.size, 1, none⟩ (.bool false)).setCell ⟨w.heap.size, 2, none⟩ (.int .i64 y)).setCell ⟨w.heap.size, 3, none⟩ (.string ⟨#[]⟩)).setCell ⟨w.heap.size, 4, none⟩ (.slice none 0 0)) := ⟨_, rfl⟩
  rw [← hW7]
  have HB7 : Below w.heap.size w W7 := by rw [hW7]; exact below_set (below_set (below_set (below_set (below_set HBW6 (Nat.le_refl _) _) (Nat.le_refl _) _) (Nat.le_refl _) _) (Nat.le_refl _) _) (Nat.le_refl _) _
  have xr7 : Box W7 w.heap.size #[.int .i64 2, .bool false, .int .i64 y, .string ⟨#[]⟩, .slice none 0 0] := by rw [hW7]; exact ((((xrW6.put 0 _).put 1 _).put 2 _).put 3 _).put 4 _
  refine bodyPost_ret (results_c3 _ rfl rfl (box_load xr7 rfl rfl rfl rfl rfl)) rfl ?_
  exact ⟨rfl, HB7⟩
set_option maxRecDepth 100000 in
set_option maxHeartbeats 3200000 in
theorem rdec_4_ok (A : Option Addr) (bs : List Int) (c : Nat) (i : Nat) (w : World) (hr : ReadsB w A bs) (hbt : ∀ x ∈ bs, 0 ≤ x ∧ x < 256) (hi : i < bs.length) (hil : i ≤ 9223372036854770000) (hk : bs.getD i 0 = 4) (hf : i + 1 + 8 ≤ bs.length) (hright : rightB 4 false (sgn (beI ((bs.drop (i + 1)).take 8))) ⟨#[]⟩ [] = true) (hT : Lib.Utf8Tabs 0 1 w) :
    Calls Tryd.prog 44 #[.slice A bs.length c, .int .i64 (i : Int)] w fun e w' => e = .returned (.tuple #[.agg #[.int .i64 4, .bool false, .int .i64 (sgn (beI ((bs.drop (i + 1)).take 8))), .string ⟨#[]⟩, .slice none 0 0], .int .i64 ((i : Int) + 9), .int .i64 0]) ∧ Below w.heap.size w w' := by
  have htk : ∀ (q n : Nat) W, Below w.heap.size w W → n ≤ 8 → q ≤ 9223372036854775000 → Calls Tryd.prog 71 #[.slice A bs.length c, .int .i64 (q : Int), .int .i64 (n : Int)] W fun e w' => e = .returned (.tuple #[.int .u64 (takeV bs q n), .bool (takeB bs q n)]) ∧ Below W.heap.size W w' := fun q n W hW hn hq => rtake_any A bs c q n W (hr.below hW) hbt hn hq
  obtain ⟨ad, rfl, hcell⟩ := hr.2 (by omega)
  have hci : ∀ W, Below w.heap.size w W → W.cell? (ad.add i) = some (.int .u8 4) := fun W hW => by
    obtain ⟨ad', e, h⟩ := (hr.below hW).2 (by omega)
    cases e
    rw [h i hi, hk]
  have hmx := hr.1
  have hV : takeV bs (i + 1) 8 = beI ((bs.drop (i + 1)).take 8) := if_pos hf
  have hB : takeB bs (i + 1) 8 = true := decide_eq_true hf
  have hRR := hright
  generalize hxx : beI ((bs.drop (i + 1)).take 8) = x at hV hRR
  have hcw : ∀ W, (convert 43 2 (.int .u64 x)).run Tryd.prog W = .ok (.int .i64 (sgn x)) W := fun W => by
    go_simp
    first | done | rfl
  generalize hyy : sgn x = y at hcw hRR
  obtain ⟨m, hm⟩ : ∃ m, m = bs.length := ⟨_, rfl⟩
  rw [← hm] at hi hmx htk ⊢
  have hii : (i : Int) < (m : Int) := by omega
  have hi0 : (0 : Int) ≤ (i : Int) := by omega
  have hi9 : (i : Int) ≤ 9223372036854770000 := by omega
  have hmi : (m : Int) ≤ 9223372036854775807 := by omega
  have HM := Aside0.mk hm
  have HR := Aside0.mk hr
  have HCI := Aside0.mk hci
  have HT := Aside0.mk hT
  have HRR := Aside0.mk hRR
  clear hm hr hk hcell hci hT hbt hRR
  try clear hright
  go_enter Tryd.func44, Tryd.ntmps44
  go_upto_region 1 with (fail)
  obtain ⟨W1, hW1⟩ : ∃ W1, W1 = w.alloc (.cells #[.int .i64 0, .bool false, .int .i64 0, .string ⟨#[]⟩, .slice none 0 0] 25) := ⟨_, rfl⟩
  rw [← hW1]
  have HB1 : Below w.heap.size w W1 := by rw [hW1]; exact below_more (Below.refl _ _) _
  have xr1 : Box W1 w.heap.size #[.int .i64 0, .bool false, .int .i64 0, .string ⟨#[]⟩, .slice none 0 0] := by rw [hW1]; exact Box.new w _
  have hcx := HCI.out W1 HB1
  clear hW1
  have hnm : ¬ (m : Int) ≤ (i : Int) := by omega
  have hnm2 : ¬ m ≤ i := by omega
  go_upto_region 3 with (fail)
  go_upto_region 4 with (fail)
  obtain ⟨W2, hW2⟩ : ∃ W2, W2 = W1.alloc (.cells #[.int .i64 4, .bool false, .int .i64 0, .string ⟨#[]⟩, .slice none 0 0] 25) := ⟨_, rfl⟩
  obtain ⟨b1, hb1⟩ : ∃ b1, b1 = W1.heap.size := ⟨_, rfl⟩
  rw [← hW2, ← hb1]
  have hb1w : w.heap.size < b1 := by rw [hb1]; exact xr1.lt
  have hne1 : w.heap.size ≠ b1 := by omega
  have hne2 : b1 ≠ w.heap.size := by omega
  have HBW2 : Below w.heap.size w W2 := by rw [hW2]; exact below_more HB1 _
  have xrW2 : Box W2 w.heap.size #[.int .i64 0, .bool false, .int .i64 0, .string ⟨#[]⟩, .slice none 0 0] := by rw [hW2]; exact xr1.more _
  have xvW2 : Box W2 b1 #[.int .i64 4, .bool false, .int .i64 0, .string ⟨#[]⟩, .slice none 0 0] := by rw [hW2, hb1]; exact Box.new W1 _
  have hbrW2 := xrW2.cells
  have hbvW2 := xvW2.cells
  have hfrW2 := xrW2.free
  have hfvW2 := xvW2.free
  clear hW2 hb1 xr1 HB1 hcx
  have ht := fun W (h : Below w.heap.size w W) => htk (i + 1) 8 W h (by decide) (by omega)
  rw [hV, hB] at ht
  have hi1 : ((i + 1 : Nat) : Int) = (i : Int) + 1 := by omega
  have HI1 := Aside0.mk hi1
  rw [hi1] at ht
  clear hi1 htk
  go_wp2_with (go_at_call 71; go_loud (refine (ht _ HBW2).mono ?_))
  first
    | (intro e W3 he hb3; subst he)
    | rintro e W3 ⟨rfl, hb3⟩
  have HBW3 := below_then HBW2 hb3
  have xrW3 := xrW2.kept hb3
  have xvW3 := xvW2.kept hb3
  have hbrW3 := xrW3.cells
  have hbvW3 := xvW3.cells
  have hfrW3 := xrW3.free
  have hfvW3 := xvW3.free
  clear hb3 ht
  clear xrW2 xvW2 hbrW2 hbvW2 hfrW2 hfvW2 HBW2
  go_upto_region 18 with (fail)
  obtain ⟨W4, hW4⟩ : ∃ W, W = W3.setCell ⟨b1, 2, none⟩ (.int .i64 y) := ⟨_, rfl⟩
  rw [← hW4]
  have HBW4 : Below w.heap.size w W4 := by rw [hW4]; exact below_set HBW3 (Nat.le_of_lt hb1w) _
  have xrW4 : Box W4 w.heap.size #[.int .i64 0, .bool false, .int .i64 0, .string ⟨#[]⟩, .slice none 0 0] := by rw [hW4]; exact xrW3.off _ _ (by simp; omega)
  have xvW4 : Box W4 b1 #[.int .i64 4, .bool false, .int .i64 y, .string ⟨#[]⟩, .slice none 0 0] := by rw [hW4]; exact xvW3.put 2 _
  have hbrW4 := xrW4.cells
  have hbvW4 := xvW4.cells
  have hfrW4 := xrW4.free
  have hfvW4 := xvW4.free
  clear hW4
  clear xrW3 xvW3 hbrW3 hbvW3 hfrW3 hfvW3 HBW3
  have hRt := rright_any 4 y false ⟨#[]⟩ none [] 0 W4 ⟨by decide, fun h => absurd h (by decide)⟩ (by decide) (Utf8Tabs_below HT.out HBW4)
  rw [HRR.out] at hRt
  go_wp2_with (go_at_call 38; refine hRt.mono ?_)
  first
    | (intro e W6 he hb6; subst he)
    | rintro e W6 ⟨rfl, hb6⟩
  have HBW6 := below_then HBW4 hb6
  have xrW6 := xrW4.kept hb6
  have xvW6 := xvW4.kept hb6
  have hbrW6 := xrW6.cells
  have hbvW6 := xvW6.cells
  have hfrW6 := xrW6.free
  have hfvW6 := xvW6.free
  clear hb6 hRt
  clear xrW4 xvW4 hbrW4 hbvW4 hfrW4 hfvW4 HBW4
  go_wp2
  obtain ⟨W7, hW7⟩ : ∃ W7, W7 = (((((W6.setCell ⟨w.heap.size, 0, none⟩ (.int .i64 4)).setCell ⟨w.heap.size, 1, none⟩ (.bool false)).setCell ⟨w.heap.size, 2, none⟩ (.int .i64 y)).setCell ⟨w.heap.size, 3, none⟩ (.string ⟨#[]⟩)).setCell ⟨w.heap.size, 4, none⟩ (.slice none 0 0)) := ⟨_, rfl⟩
  rw [← hW7]
  have HB7 : Below w.heap.size w W7 := by rw [hW7]; exact below_set (below_set (below_set (below_set (below_set HBW6 (Nat.le_refl _) _) (Nat.le_refl _) _) (Nat.le_refl _) _) (Nat.le_refl _) _) (Nat.le_refl _) _
  have xr7 : Box W7 w.heap.size #[.int .i64 4, .bool false, .int .i64 y, .string ⟨#[]⟩, .slice none 0 0] := by rw [hW7]; exact ((((xrW6.put 0 _).put 1 _).put 2 _).put 3 _).put 4 _
  refine bodyPost_ret (results_c3 _ rfl rfl (box_load xr7 rfl rfl rfl rfl rfl)) rfl ?_
  exact ⟨rfl, HB7⟩
set_option maxRecDepth 100000 in
set_option maxHeartbeats 3200000 in
theorem rdec_4_not (A : Option Addr) (bs : List Int) (c : Nat) (i : Nat) (w : World) (hr : ReadsB w A bs) (hbt : ∀ x ∈ bs, 0 ≤ x ∧ x < 256) (hi : i < bs.length) (hil : i ≤ 9223372036854770000) (hk : bs.getD i 0 = 4) (hf : i + 1 + 8 ≤ bs.length) (hright : rightB 4 false (sgn (beI ((bs.drop (i + 1)).take 8))) ⟨#[]⟩ [] = false) (hT : Lib.Utf8Tabs 0 1 w) :
    Calls Tryd.prog 44 #[.slice A bs.length c, .int .i64 (i : Int)] w fun e w' => e = .returned (.tuple #[.agg #[.int .i64 0, .bool false, .int .i64 0, .string ⟨#[]⟩, .slice none 0 0], .int .i64 0, .int .i64 21]) ∧ Below w.heap.size w w' := by
  have htk : ∀ (q n : Nat) W, Below w.heap.size w W → n ≤ 8 → q ≤ 9223372036854775000 → Calls Tryd.prog 71 #[.slice A bs.length c, .int .i64 (q : Int), .int .i64 (n : Int)] W fun e w' => e = .returned (.tuple #[.int .u64 (takeV bs q n), .bool (takeB bs q n)]) ∧ Below W.heap.size W w' := fun q n W hW hn hq => rtake_any A bs c q n W (hr.below hW) hbt hn hq
  obtain ⟨ad, rfl, hcell⟩ := hr.2 (by omega)
  have hci : ∀ W, Below w.heap.size w W → W.cell? (ad.add i) = some (.int .u8 4) := fun W hW => by
    obtain ⟨ad', e, h⟩ := (hr.below hW).2 (by omega)
    cases e
    rw [h i hi, hk]
  have hmx := hr.1
  have hV : takeV bs (i + 1) 8 = beI ((bs.drop (i + 1)).take 8) := if_pos hf
  have hB : takeB bs (i + 1) 8 = true := decide_eq_true hf
  have hRR := hright
  generalize hxx : beI ((bs.drop (i + 1)).take 8) = x at hV hRR
  have hcw : ∀ W, (convert 43 2 (.int .u64 x)).run Tryd.prog W = .ok (.int .i64 (sgn x)) W := fun W => by
    go_simp
    first | done | rfl
  generalize hyy : sgn x = y at hcw hRR
  obtain ⟨m, hm⟩ : ∃ m, m = bs.length := ⟨_, rfl⟩
  rw [← hm] at hi hmx htk ⊢
  have hii : (i : Int) < (m : Int) := by omega
  have hi0 : (0 : Int) ≤ (i : Int) := by omega
  have hi9 : (i : Int) ≤ 9223372036854770000 := by omega
  have hmi : (m : Int) ≤ 9223372036854775807 := by omega
  have HM := Aside0.mk hm
  have HR := Aside0.mk hr
  have HCI := Aside0.mk hci
  have HT := Aside0.mk hT
  have HRR := Aside0.mk hRR
  clear hm hr hk hcell hci hT hbt hRR
  try clear hright
  go_enter Tryd.func44, Tryd.ntmps44
  go_upto_region 1 with (fail)
  obtain ⟨W1, hW1⟩ : ∃ W1, W1 = w.alloc (.cells #[.int .i64 0, .bool false, .int .i64 0, .string ⟨#[]⟩, .slice none 0 0] 25) := ⟨_, rfl⟩
  rw [← hW1]
  have HB1 : Below w.heap.size w W1 := by rw [hW1]; exact below_more (Below.refl _ _) _
  have xr1 : Box W1 w.heap.size #[.int .i64 0, .bool false, .int .i64 0, .string ⟨#[]⟩, .slice none 0 0] := by rw [hW1]; exact Box.new w _
  have hcx := HCI.out W1 HB1
  clear hW1
  have hnm : ¬ (m : Int) ≤ (i : Int) := by omega
  have hnm2 : ¬ m ≤ i := by omega
  go_upto_region 3 with (fail)
  go_upto_region 4 with (fail)
  obtain ⟨W2, hW2⟩ : ∃ W2, W2 = W1.alloc (.cells #[.int .i64 4, .bool false, .int .i64 0, .string ⟨#[]⟩, .slice none 0 0] 25) := ⟨_, rfl⟩
  obtain ⟨b1, hb1⟩ : ∃ b1, b1 = W1.heap.size := ⟨_, rfl⟩
  rw [← hW2, ← hb1]
  have hb1w : w.heap.size < b1 := by rw [hb1]; exact xr1.lt
  have hne1 : w.heap.size ≠ b1 := by omega
  have hne2 : b1 ≠ w.heap.size := by omega
  have HBW2 : Below w.heap.size w W2 := by rw [hW2]; exact below_more HB1 _
  have xrW2 : Box W2 w.heap.size #[.int .i64 0, .bool false, .int .i64 0, .string ⟨#[]⟩, .slice none 0 0] := by rw [hW2]; exact xr1.more _
  have xvW2 : Box W2 b1 #[.int .i64 4, .bool false, .int .i64 0, .string ⟨#[]⟩, .slice none 0 0] := by rw [hW2, hb1]; exact Box.new W1 _
  have hbrW2 := xrW2.cells
  have hbvW2 := xvW2.cells
  have hfrW2 := xrW2.free
  have hfvW2 := xvW2.free
  clear hW2 hb1 xr1 HB1 hcx
  have ht := fun W (h : Below w.heap.size w W) => htk (i + 1) 8 W h (by decide) (by omega)
  rw [hV, hB] at ht
  have hi1 : ((i + 1 : Nat) : Int) = (i : Int) + 1 := by omega
  have HI1 := Aside0.mk hi1
  rw [hi1] at ht
  clear hi1 htk
  go_wp2_with (go_at_call 71; go_loud (refine (ht _ HBW2).mono ?_))
  first
    | (intro e W3 he hb3; subst he)
    | rintro e W3 ⟨rfl, hb3⟩
  have HBW3 := below_then HBW2 hb3
  have xrW3 := xrW2.kept hb3
  have xvW3 := xvW2.kept hb3
  have hbrW3 := xrW3.cells
  have hbvW3 := xvW3.cells
  have hfrW3 := xrW3.free
  have hfvW3 := xvW3.free
  clear hb3 ht
  clear xrW2 xvW2 hbrW2 hbvW2 hfrW2 hfvW2 HBW2
  go_upto_region 18 with (fail)
  obtain ⟨W4, hW4⟩ : ∃ W, W = W3.setCell ⟨b1, 2, none⟩ (.int .i64 y) := ⟨_, rfl⟩
  rw [← hW4]
  have HBW4 : Below w.heap.size w W4 := by rw [hW4]; exact below_set HBW3 (Nat.le_of_lt hb1w) _
  have xrW4 : Box W4 w.heap.size #[.int .i64 0, .bool false, .int .i64 0, .string ⟨#[]⟩, .slice none 0 0] := by rw [hW4]; exact xrW3.off _ _ (by simp; omega)
  have xvW4 : Box W4 b1 #[.int .i64 4, .bool false, .int .i64 y, .string ⟨#[]⟩, .slice none 0 0] := by rw [hW4]; exact xvW3.put 2 _
  have hbrW4 := xrW4.cells
  have hbvW4 := xvW4.cells
  have hfrW4 := xrW4.free
  have hfvW4 := xvW4.free
  clear hW4
  clear xrW3 xvW3 hbrW3 hbvW3 hfrW3 hfvW3 HBW3
  have hRt := rright_any 4 y false ⟨#[]⟩ none [] 0 W4 ⟨by decide, fun h => absurd h (by decide)⟩ (by decide) (Utf8Tabs_below HT.out HBW4)
  rw [HRR.out] at hRt
  go_wp2_with (go_at_call 38; refine hRt.mono ?_)
  first
    | (intro e W6 he hb6; subst he)
    | rintro e W6 ⟨rfl, hb6⟩
  have HBW6 := below_then HBW4 hb6
  have xrW6 := xrW4.kept hb6
  have xvW6 := xvW4.kept hb6
  have hbrW6 := xrW6.cells
  have hbvW6 := xvW6.cells
  have hfrW6 := xrW6.free
  have hfvW6 := xvW6.free
  clear hb6 hRt
  clear xrW4 xvW4 hbrW4 hbvW4 hfrW4 hfvW4 HBW4
  go_wp2
  obtain ⟨W7, hW7⟩ : ∃ W7, W7 = (((((W6.setCell ⟨w.heap.size, 0, none⟩ (.int .i64 0)).setCell ⟨w.heap.size, 1, none⟩ (.bool false)).setCell ⟨w.heap.size, 2, none⟩ (.int .i64 0)).setCell ⟨w.heap.size, 3, none⟩ (.string ⟨#[]⟩)).setCell ⟨w.heap.size, 4, none⟩ (.slice none 0 0)) := ⟨_, rfl⟩
  rw [← hW7]
  have HB7 : Below w.heap.size w W7 := by rw [hW7]; exact below_set (below_set (below_set (below_set (below_set HBW6 (Nat.le_refl _) _) (Nat.le_refl _) _) (Nat.le_refl _) _) (Nat.le_refl _) _) (Nat.le_refl _) _
  have xr7 : Box W7 w.heap.size #[.int .i64 0, .bool false, .int .i64 0, .string ⟨#[]⟩, .slice none 0 0] := by rw [hW7]; exact ((((xrW6.put 0 _).put 1 _).put 2 _).put 3 _).put 4 _
  refine bodyPost_ret (results_c3 _ rfl rfl (box_load xr7 rfl rfl rfl rfl rfl)) rfl ?_
  exact ⟨rfl, HB7⟩
set_option maxRecDepth 100000 in
set_option maxHeartbeats 3200000 in
theorem rdec_5_ok (A : Option Addr) (bs : List Int) (c : Nat) (i : Nat) (w : World) (hr : ReadsB w A bs) (hbt : ∀ x ∈ bs, 0 ≤ x ∧ x < 256) (hi : i < bs.length) (hil : i ≤ 9223372036854770000) (hk : bs.getD i 0 = 5) (hf : i + 1 + 8 ≤ bs.length) (hright : rightB 5 false (sgn (beI ((bs.drop (i + 1)).take 8))) ⟨#[]⟩ [] = true) (hT : Lib.Utf8Tabs 0 1 w) :
    Calls Tryd.prog 44 #[.slice A bs.length c, .int .i64 (i : Int)] w fun e w' => e = .returned (.tuple #[.agg #[.int .i64 5, .bool false, .int .i64 (sgn (beI ((bs.drop (i + 1)).take 8))), .string ⟨#[]⟩, .slice none 0 0], .int .i64 ((i : Int) + 9), .int .i64 0]) ∧ Below w.heap.size w w' := by
  have htk : ∀ (q n : Nat) W, Below w.heap.size w W → n ≤ 8 → q ≤ 9223372036854775000 → Calls Tryd.prog 71 #[.slice A bs.length c, .int .i64 (q : Int), .int .i64 (n : Int)] W fun e w' => e = .returned (.tuple #[.int .u64 (takeV bs q n), .bool (takeB bs q n)]) ∧ Below W.heap.size W w' := fun q n W hW hn hq => rtake_any A bs c q n W (hr.below hW) hbt hn hq
  obtain ⟨ad, rfl, hcell⟩ := hr.2 (by omega)
  have hci : ∀ W, Below w.heap.size w W → W.cell? (ad.add i) = some (.int .u8 5) := fun W hW => by
    obtain ⟨ad', e, h⟩ := (hr.below hW).2 (by omega)
    cases e
    rw [h i hi, hk]
  have hmx := hr.1
  have hV : takeV bs (i + 1) 8 = beI ((bs.drop (i + 1)).take 8) := if_pos hf
  have hB : takeB bs (i + 1) 8 = true := decide_eq_true hf
  have hRR := hright
  generalize hxx : beI ((bs.drop (i + 1)).take 8) = x at hV hRR
  have hcw : ∀ W, (convert 43 2 (.int .u64 x)).run Tryd.prog W = .ok (.int .i64 (sgn x)) W := fun W => by
    go_simp
    first | done | rfl
  generalize hyy : sgn x = y at hcw hRR
  obtain ⟨m, hm⟩ : ∃ m, m = bs.length := ⟨_, rfl⟩
  rw [← hm] at hi hmx htk ⊢
  have hii : (i : Int) < (m : Int) := by omega
  have hi0 : (0 : Int) ≤ (i : Int) := by omega
  have hi9 : (i : Int) ≤ 9223372036854770000 := by omega
  have hmi : (m : Int) ≤ 9223372036854775807 := by omega
  have HM := Aside0.mk hm
  have HR := Aside0.mk hr
  have HCI := Aside0.mk hci
  have HT := Aside0.mk hT
  have HRR := Aside0.mk hRR
  clear hm hr hk hcell hci hT hbt hRR
  try clear hright
  go_enter Tryd.func44, Tryd.ntmps44
  go_upto_region 1 with (fail)
  obtain ⟨W1, hW1⟩ : ∃ W1, W1 = w.alloc (.cells #[.int .i64 0, .bool false, .int .i64 0, .string ⟨#[]⟩, .slice none 0 0] 25) := ⟨_, rfl⟩
  rw [← hW1]
  have HB1 : Below w.heap.size w W1 := by rw [hW1]; exact below_more (Below.refl _ _) _
  have xr1 : Box W1 w.heap.size #[.int .i64 0, .bool false, .int .i64 0, .string ⟨#[]⟩, .slice none 0 0] := by rw [hW1]; exact Box.new w _
  have hcx := HCI.out W1 HB1
  clear hW1
  have hnm : ¬ (m : Int) ≤ (i : Int) := by omega
  have hnm2 : ¬ m ≤ i := by omega
  go_upto_region 3 with (fail)
  go_upto_region 4 with (fail)
  obtain ⟨W2, hW2⟩ : ∃ W2, W2 = W1.alloc (.cells #[.int .i64 5, .bool false, .int .i64 0, .string ⟨#[]⟩, .slice none 0 0] 25) := ⟨_, rfl⟩
  obtain ⟨b1, hb1⟩ : ∃ b1, b1 = W1.heap.size := ⟨_, rfl⟩
  rw [← hW2, ← hb1]
  have hb1w : w.heap.size < b1 := by rw [hb1]; exact xr1.lt
  have hne1 : w.heap.size ≠ b1 := by omega
  have hne2 : b1 ≠ w.heap.size := by omega
  have HBW2 : Below w.heap.size w W2 := by rw [hW2]; exact below_more HB1 _
  have xrW2 : Box W2 w.heap.size #[.int .i64 0, .bool false, .int .i64 0, .string ⟨#[]⟩, .slice none 0 0] := by rw [hW2]; exact xr1.more _
  have xvW2 : Box W2 b1 #[.int .i64 5, .bool false, .int .i64 0, .string ⟨#[]⟩, .slice none 0 0] := by rw [hW2, hb1]; exact Box.new W1 _
  have hbrW2 := xrW2.cells
  have hbvW2 := xvW2.cells
  have hfrW2 := xrW2.free
  have hfvW2 := xvW2.free
  clear hW2 hb1 xr1 HB1 hcx
  have ht := fun W (h : Below w.heap.size w W) => htk (i + 1) 8 W h (by decide) (by omega)
  rw [hV, hB] at ht
  have hi1 : ((i + 1 : Nat) : Int) = (i : Int) + 1 := by omega
  have HI1 := Aside0.mk hi1
  rw [hi1] at ht
  clear hi1 htk
  go_wp2_with (go_at_call 71; go_loud (refine (ht _ HBW2).mono ?_))
  first
    | (intro e W3 he hb3; subst he)
    | rintro e W3 ⟨rfl, hb3⟩
  have HBW3 := below_then HBW2 hb3
  have xrW3 := xrW2.kept hb3
  have xvW3 := xvW2.kept hb3
  have hbrW3 := xrW3.cells
  have hbvW3 := xvW3.cells
  have hfrW3 := xrW3.free
  have hfvW3 := xvW3.free
  clear hb3 ht
  clear xrW2 xvW2 hbrW2 hbvW2 hfrW2 hfvW2 HBW2
  go_upto_region 18 with (fail)
  obtain ⟨W4, hW4⟩ : ∃ W, W = W3.setCell ⟨b1, 2, none⟩ (.int .i64 y) := ⟨_, rfl⟩
  rw [← hW4]
  have HBW4 : Below w.heap.size w W4 := by rw [hW4]; exact below_set HBW3 (Nat.le_of_lt hb1w) _
  have xrW4 : Box W4 w.heap.size #[.int .i64 0, .bool false, .int .i64 0, .string ⟨#[]⟩, .slice none 0 0] := by rw [hW4]; exact xrW3.off _ _ (by simp; omega)
  have xvW4 : Box W4 b1 #[.int .i64 5, .bool false, .int .i64 y, .string ⟨#[]⟩, .slice none 0 0] := by rw [hW4]; exact xvW3.put 2 _
  have hbrW4 := xrW4.cells
  have hbvW4 := xvW4.cells
  have hfrW4 := xrW4.free
  have hfvW4 := xvW4.free
  clear hW4
  clear xrW3 xvW3 hbrW3 hbvW3 hfrW3 hfvW3 HBW3
  have hRt := rright_any 5 y false ⟨#[]⟩ none [] 0 W4 ⟨by decide, fun h => absurd h (by decide)⟩ (by decide) (Utf8Tabs_below HT.out HBW4)
  rw [HRR.out] at hRt
  go_wp2_with (go_at_call 38; refine hRt.mono ?_)
  first
    | (intro e W6 he hb6; subst he)
    | rintro e W6 ⟨rfl, hb6⟩
  have HBW6 := below_then HBW4 hb6
  have xrW6 := xrW4.kept hb6
  have xvW6 := xvW4.kept hb6
  have hbrW6 := xrW6.cells
  have hbvW6 := xvW6.cells
  have hfrW6 := xrW6.free
  have hfvW6 := xvW6.free
  clear hb6 hRt
  clear xrW4 xvW4 hbrW4 hbvW4 hfrW4 hfvW4 HBW4
  go_wp2
  obtain ⟨W7, hW7⟩ : ∃ W7, W7 = (((((W6.setCell ⟨w.heap.size, 0, none⟩ (.int .i64 5)).setCell ⟨w.heap.size, 1, none⟩ (.bool false)).setCell ⟨w.heap.size, 2, none⟩ (.int .i64 y)).setCell ⟨w.heap.size, 3, none⟩ (.string ⟨#[]⟩)).setCell ⟨w.heap.size, 4, none⟩ (.slice none 0 0)) := ⟨_, rfl⟩
  rw [← hW7]
  have HB7 : Below w.heap.size w W7 := by rw [hW7]; exact below_set (below_set (below_set (below_set (below_set HBW6 (Nat.le_refl _) _) (Nat.le_refl _) _) (Nat.le_refl _) _) (Nat.le_refl _) _) (Nat.le_refl _) _
  have xr7 : Box W7 w.heap.size #[.int .i64 5, .bool false, .int .i64 y, .string ⟨#[]⟩, .slice none 0 0] := by rw [hW7]; exact ((((xrW6.put 0 _).put 1 _).put 2 _).put 3 _).put 4 _
  refine bodyPost_ret (results_c3 _ rfl rfl (box_load xr7 rfl rfl rfl rfl rfl)) rfl ?_
  exact ⟨rfl, HB7⟩
set_option maxRecDepth 100000 in
set_option maxHeartbeats 3200000 in
theorem rdec_5_not (A : Option Addr) (bs : List Int) (c : Nat) (i : Nat) (w : World) (hr : ReadsB w A bs) (hbt : ∀ x ∈ bs, 0 ≤ x ∧ x < 256) (hi : i < bs.length) (hil : i ≤ 9223372036854770000) (hk : bs.getD i 0 = 5) (hf : i + 1 + 8 ≤ bs.length) (hright : rightB 5 false (sgn (beI ((bs.drop (i + 1)).take 8))) ⟨#[]⟩ [] = false) (hT : Lib.Utf8Tabs 0 1 w) :
    Calls Tryd.prog 44 #[.slice A bs.length c, .int .i64 (i : Int)] w fun e w' => e = .returned (.tuple #[.agg #[.int .i64 0, .bool false, .int .i64 0, .string ⟨#[]⟩, .slice none 0 0], .int .i64 0, .int .i64 21]) ∧ Below w.heap.size w w' := by
  have htk : ∀ (q n : Nat) W, Below w.heap.size w W → n ≤ 8 → q ≤ 9223372036854775000 → Calls Tryd.prog 71 #[.slice A bs.length c, .int .i64 (q : Int), .int .i64 (n : Int)] W fun e w' => e = .returned (.tuple #[.int .u64 (takeV bs q n), .bool (takeB bs q n)]) ∧ Below W.heap.size W w' := fun q n W hW hn hq => rtake_any A bs c q n W (hr.below hW) hbt hn hq
  obtain ⟨ad, rfl, hcell⟩ := hr.2 (by omega)
  have hci : ∀ W, Below w.heap.size w W → W.cell? (ad.add i) = some (.int .u8 5) := fun W hW => by
    obtain ⟨ad', e, h⟩ := (hr.below hW).2 (by omega)
    cases e
    rw [h i hi, hk]
  have hmx := hr.1
  have hV : takeV bs (i + 1) 8 = beI ((bs.drop (i + 1)).take 8) := if_pos hf
  have hB : takeB bs (i + 1) 8 = true := decide_eq_true hf
  have hRR := hright
  generalize hxx : beI ((bs.drop (i + 1)).take 8) = x at hV hRR
  have hcw : ∀ W, (convert 43 2 (.int .u64 x)).run Tryd.prog W = .ok (.int .i64 (sgn x)) W := fun W => by
    go_simp
    first | done | rfl
  generalize hyy : sgn x = y at hcw hRR
  obtain ⟨m, hm⟩ : ∃ m, m = bs.length := ⟨_, rfl⟩
  rw [← hm] at hi hmx htk ⊢
  have hii : (i : Int) < (m : Int) := by omega
  have hi0 : (0 : Int) ≤ (i : Int) := by omega
  have hi9 : (i : Int) ≤ 9223372036854770000 := by omega
  have hmi : (m : Int) ≤ 9223372036854775807 := by omega
  have HM := Aside0.mk hm
  have HR := Aside0.mk hr
  have HCI := Aside0.mk hci
  have HT := Aside0.mk hT
  have HRR := Aside0.mk hRR
  clear hm hr hk hcell hci hT hbt hRR
  try clear hright
  go_enter Tryd.func44, Tryd.ntmps44
  go_upto_region 1 with (fail)
  obtain ⟨W1, hW1⟩ : ∃ W1, W1 = w.alloc (.cells #[.int .i64 0, .bool false, .int .i64 0, .string ⟨#[]⟩, .slice none 0 0] 25) := ⟨_, rfl⟩
  rw [← hW1]
  have HB1 : Below w.heap.size w W1 := by rw [hW1]; exact below_more (Below.refl _ _) _
  have xr1 : Box W1 w.heap.size #[.int .i64 0, .bool false, .int .i64 0, .string ⟨#[]⟩, .slice none 0 0] := by rw [hW1]; exact Box.new w _
  have hcx := HCI.out W1 HB1
  clear hW1
  have hnm : ¬ (m : Int) ≤ (i : Int) := by omega
  have hnm2 : ¬ m ≤ i := by omega
  go_upto_region 3 with (fail)
  go_upto_region 4 with (fail)
  obtain ⟨W2, hW2⟩ : ∃ W2, W2 = W1.alloc (.cells #[.int .i64 5, .bool false, .int .i64 0, .string ⟨#[]⟩, .slice none 0 0] 25) := ⟨_, rfl⟩
  obtain ⟨b1, hb1⟩ : ∃ b1, b1 = W1.heap.size := ⟨_, rfl⟩
  rw [← hW2, ← hb1]
  have hb1w : w.heap.size < b1 := by rw [hb1]; exact xr1.lt
  have hne1 : w.heap.size ≠ b1 := by omega
  have hne2 : b1 ≠ w.heap.size := by omega
  have HBW2 : Below w.heap.size w W2 := by rw [hW2]; exact below_more HB1 _
  have xrW2 : Box W2 w.heap.size #[.int .i64 0, .bool false, .int .i64 0, .string ⟨#[]⟩, .slice none 0 0] := by rw [hW2]; exact xr1.more _
  have xvW2 : Box W2 b1 #[.int .i64 5, .bool false, .int .i64 0, .string ⟨#[]⟩, .slice none 0 0] := by rw [hW2, hb1]; exact Box.new W1 _
  have hbrW2 := xrW2.cells
  have hbvW2 := xvW2.cells
  have hfrW2 := xrW2.free
  have hfvW2 := xvW2.free
  clear hW2 hb1 xr1 HB1 hcx
  have ht := fun W (h : Below w.heap.size w W) => htk (i + 1) 8 W h (by decide) (by omega)
  rw [hV, hB] at ht
  have hi1 : ((i + 1 : Nat) : Int) = (i : Int) + 1 := by omega
  have HI1 := Aside0.mk hi1
  rw [hi1] at ht
  clear hi1 htk
  go_wp2_with (go_at_call 71; go_loud (refine (ht _ HBW2).mono ?_))
  first
    | (intro e W3 he hb3; subst he)
    | rintro e W3 ⟨rfl, hb3⟩
  have HBW3 := below_then HBW2 hb3
  have xrW3 := xrW2.kept hb3
  have xvW3 := xvW2.kept hb3
  have hbrW3 := xrW3.cells
  have hbvW3 := xvW3.cells
  have hfrW3 := xrW3.free
  have hfvW3 := xvW3.free
  clear hb3 ht
  clear xrW2 xvW2 hbrW2 hbvW2 hfrW2 hfvW2 HBW2
  go_upto_region 18 with (fail)
  obtain ⟨W4, hW4⟩ : ∃ W, W = W3.setCell ⟨b1, 2, none⟩ (.int .i64 y) := ⟨_, rfl⟩
  rw [← hW4]
  have HBW4 : Below w.heap.size w W4 := by rw [hW4]; exact below_set HBW3 (Nat.le_of_lt hb1w) _
  have xrW4 : Box W4 w.heap.size #[.int .i64 0, .bool false, .int .i64 0, .string ⟨#[]⟩, .slice none 0 0] := by rw [hW4]; exact xrW3.off _ _ (by simp; omega)
  have xvW4 : Box W4 b1 #[.int .i64 5, .bool false, .int .i64 y, .string ⟨#[]⟩, .slice none 0 0] := by rw [hW4]; exact xvW3.put 2 _
  have hbrW4 := xrW4.cells
  have hbvW4 := xvW4.cells
  have hfrW4 := xrW4.free
  have hfvW4 := xvW4.free
  clear hW4
  clear xrW3 xvW3 hbrW3 hbvW3 hfrW3 hfvW3 HBW3
  have hRt := rright_any 5 y false ⟨#[]⟩ none [] 0 W4 ⟨by decide, fun h => absurd h (by decide)⟩ (by decide) (Utf8Tabs_below HT.out HBW4)
  rw [HRR.out] at hRt
  go_wp2_with (go_at_call 38; refine hRt.mono ?_)
  first
    | (intro e W6 he hb6; subst he)
    | rintro e W6 ⟨rfl, hb6⟩
  have HBW6 := below_then HBW4 hb6
  have xrW6 := xrW4.kept hb6
  have xvW6 := xvW4.kept hb6
  have hbrW6 := xrW6.cells
  have hbvW6 := xvW6.cells
  have hfrW6 := xrW6.free
  have hfvW6 := xvW6.free
  clear hb6 hRt
  clear xrW4 xvW4 hbrW4 hbvW4 hfrW4 hfvW4 HBW4
  go_wp2
  obtain ⟨W7, hW7⟩ : ∃ W7, W7 = (((((W6.setCell ⟨w.heap.size, 0, none⟩ (.int .i64 0)).setCell ⟨w.heap.size, 1, none⟩ (.bool false)).setCell ⟨w.heap.size, 2, none⟩ (.int .i64 0)).setCell ⟨w.heap.size, 3, none⟩ (.string ⟨#[]⟩)).setCell ⟨w.heap.size, 4, none⟩ (.slice none 0 0)) := ⟨_, rfl⟩
  rw [← hW7]
  have HB7 : Below w.heap.size w W7 := by rw [hW7]; exact below_set (below_set (below_set (below_set (below_set HBW6 (Nat.le_refl _) _) (Nat.le_refl _) _) (Nat.le_refl _) _) (Nat.le_refl _) _) (Nat.le_refl _) _
  have xr7 : Box W7 w.heap.size #[.int .i64 0, .bool false, .int .i64 0, .string ⟨#[]⟩, .slice none 0 0] := by rw [hW7]; exact ((((xrW6.put 0 _).put 1 _).put 2 _).put 3 _).put 4 _
  refine bodyPost_ret (results_c3 _ rfl rfl (box_load xr7 rfl rfl rfl rfl rfl)) rfl ?_
  exact ⟨rfl, HB7⟩
set_option maxRecDepth 100000 in
set_option maxHeartbeats 3200000 in
theorem rdec_2_short (A : Option Addr) (bs : List Int) (c : Nat) (i : Nat) (w : World) (hr : ReadsB w A bs) (hbt : ∀ x ∈ bs, 0 ≤ x ∧ x < 256) (hi : i < bs.length) (hil : i ≤ 9223372036854770000) (hk : bs.getD i 0 = 2) (hf : ¬ i + 1 + 8 ≤ bs.length) (hT : Lib.Utf8Tabs 0 1 w) :
    Calls Tryd.prog 44 #[.slice A bs.length c, .int .i64 (i : Int)] w fun e w' => e = .returned (.tuple #[.agg #[.int .i64 0, .bool false, .int .i64 0, .string ⟨#[]⟩, .slice none 0 0], .int .i64 0, .int .i64 21]) ∧ Below w.heap.size w w' := by
  have htk : ∀ (q n : Nat) W, Below w.heap.size w W → n ≤ 8 → q ≤ 9223372036854775000 → Calls Tryd.prog 71 #[.slice A bs.length c, .int .i64 (q : Int), .int .i64 (n : Int)] W fun e w' => e = .returned (.tuple #[.int .u64 (takeV bs q n), .bool (takeB bs q n)]) ∧ Below W.heap.size W w' := fun q n W hW hn hq => rtake_any A bs c q n W (hr.below hW) hbt hn hq
  obtain ⟨ad, rfl, hcell⟩ := hr.2 (by omega)
  have hci : ∀ W, Below w.heap.size w W → W.cell? (ad.add i) = some (.int .u8 2) := fun W hW => by
    obtain ⟨ad', e, h⟩ := (hr.below hW).2 (by omega)
    cases e
    rw [h i hi, hk]
  have hmx := hr.1
  have hV0 : takeV bs (i + 1) 8 = 0 := if_neg hf
  have hB : takeB bs (i + 1) 8 = false := decide_eq_false hf
  obtain ⟨x, hx⟩ : ∃ x : Int, x = 0 := ⟨_, rfl⟩
  have hV : takeV bs (i + 1) 8 = x := hV0.trans hx.symm
  have hcw : ∀ W, (convert 43 2 (.int .u64 x)).run Tryd.prog W = .ok (.int .i64 (sgn x)) W := fun W => by
    go_simp
    first | done | rfl
  clear hV0 hx hf
  generalize sgn x = y at hcw
  obtain ⟨R, hRR⟩ : ∃ R, rightB 2 false y ⟨#[]⟩ [] = R := ⟨_, rfl⟩
  obtain ⟨m, hm⟩ : ∃ m, m = bs.length := ⟨_, rfl⟩
  rw [← hm] at hi hmx htk ⊢
  have hii : (i : Int) < (m : Int) := by omega
  have hi0 : (0 : Int) ≤ (i : Int) := by omega
  have hi9 : (i : Int) ≤ 9223372036854770000 := by omega
  have hmi : (m : Int) ≤ 9223372036854775807 := by omega
  have HM := Aside0.mk hm
  have HR := Aside0.mk hr
  have HCI := Aside0.mk hci
  have HT := Aside0.mk hT
  have HRR := Aside0.mk hRR
  clear hm hr hk hcell hci hT hbt hRR
  try clear hright
  go_enter Tryd.func44, Tryd.ntmps44
  go_upto_region 1 with (fail)
  obtain ⟨W1, hW1⟩ : ∃ W1, W1 = w.alloc (.cells #[.int .i64 0, .bool false, .int .i64 0, .string ⟨#[]⟩, .slice none 0 0] 25) := ⟨_, rfl⟩
  rw [← hW1]
  have HB1 : Below w.heap.size w W1 := by rw [hW1]; exact below_more (Below.refl _ _) _
  have xr1 : Box W1 w.heap.size #[.int .i64 0, .bool false, .int .i64 0, .string ⟨#[]⟩, .slice none 0 0] := by rw [hW1]; exact Box.new w _
  have hcx := HCI.out W1 HB1
  clear hW1
  have hnm : ¬ (m : Int) ≤ (i : Int) := by omega
  have hnm2 : ¬ m ≤ i := by omega
  go_upto_region 3 with (fail)
  go_upto_region 4 with (fail)
  obtain ⟨W2, hW2⟩ : ∃ W2, W2 = W1.alloc (.cells #[.int .i64 2, .bool false, .int .i64 0, .string ⟨#[]⟩, .slice none 0 0] 25) := ⟨_, rfl⟩
  obtain ⟨b1, hb1⟩ : ∃ b1, b1 = W1.heap.size := ⟨_, rfl⟩
  rw [← hW2, ← hb1]
  have hb1w : w.heap.size < b1 := by rw [hb1]; exact xr1.lt
  have hne1 : w.heap.size ≠ b1 := by omega
  have hne2 : b1 ≠ w.heap.size := by omega
  have HBW2 : Below w.heap.size w W2 := by rw [hW2]; exact below_more HB1 _
  have xrW2 : Box W2 w.heap.size #[.int .i64 0, .bool false, .int .i64 0, .string ⟨#[]⟩, .slice none 0 0] := by rw [hW2]; exact xr1.more _
  have xvW2 : Box W2 b1 #[.int .i64 2, .bool false, .int .i64 0, .string ⟨#[]⟩, .slice none 0 0] := by rw [hW2, hb1]; exact Box.new W1 _
  have hbrW2 := xrW2.cells
  have hbvW2 := xvW2.cells
  have hfrW2 := xrW2.free
  have hfvW2 := xvW2.free
  clear hW2 hb1 xr1 HB1 hcx
  have ht := fun W (h : Below w.heap.size w W) => htk (i + 1) 8 W h (by decide) (by omega)
  rw [hV, hB] at ht
  have hi1 : ((i + 1 : Nat) : Int) = (i : Int) + 1 := by omega
  have HI1 := Aside0.mk hi1
  rw [hi1] at ht
  clear hi1 htk
  go_wp2_with (go_at_call 71; go_loud (refine (ht _ HBW2).mono ?_))
  first
    | (intro e W3 he hb3; subst he)
    | rintro e W3 ⟨rfl, hb3⟩
  have HBW3 := below_then HBW2 hb3
  have xrW3 := xrW2.kept hb3
  have xvW3 := xvW2.kept hb3
  have hbrW3 := xrW3.cells
  have hbvW3 := xvW3.cells
  have hfrW3 := xrW3.free
  have hfvW3 := xvW3.free
  clear hb3 ht
  clear xrW2 xvW2 hbrW2 hbvW2 hfrW2 hfvW2 HBW2
  go_upto_region 18 with (fail)
  obtain ⟨W4, hW4⟩ : ∃ W, W = W3.setCell ⟨b1, 2, none⟩ (.int .i64 y) := ⟨_, rfl⟩
  rw [← hW4]
  have HBW4 : Below w.heap.size w W4 := by rw [hW4]; exact below_set HBW3 (Nat.le_of_lt hb1w) _
  have xrW4 : Box W4 w.heap.size #[.int .i64 0, .bool false, .int .i64 0, .string ⟨#[]⟩, .slice none 0 0] := by rw [hW4]; exact xrW3.off _ _ (by simp; omega)
  have xvW4 : Box W4 b1 #[.int .i64 2, .bool false, .int .i64 y, .string ⟨#[]⟩, .slice none 0 0] := by rw [hW4]; exact xvW3.put 2 _
  have hbrW4 := xrW4.cells
  have hbvW4 := xvW4.cells
  have hfrW4 := xrW4.free
  have hfvW4 := xvW4.free
  clear hW4
  clear xrW3 xvW3 hbrW3 hbvW3 hfrW3 hfvW3 HBW3
  have hRt := rright_any 2 y false ⟨#[]⟩ none [] 0 W4 ⟨by decide, fun h => absurd h (by decide)⟩ (by decide) (Utf8Tabs_below HT.out HBW4)
  rw [HRR.out] at hRt
  go_wp2_with (go_at_call 38; refine hRt.mono ?_)
  first
    | (intro e W6 he hb6; subst he)
    | rintro e W6 ⟨rfl, hb6⟩
  have HBW6 := below_then HBW4 hb6
  have xrW6 := xrW4.kept hb6
  have xvW6 := xvW4.kept hb6
  have hbrW6 := xrW6.cells
  have hbvW6 := xvW6.cells
  have hfrW6 := xrW6.free
  have hfvW6 := xvW6.free
  clear hb6 hRt
  clear xrW4 xvW4 hbrW4 hbvW4 hfrW4 hfvW4 HBW4
  go_wp2
  obtain ⟨W7, hW7⟩ : ∃ W7, W7 = (((((W6.setCell ⟨w.heap.size, 0, none⟩ (.int .i64 0)).setCell ⟨w.heap.size, 1, none⟩ (.bool false)).setCell ⟨w.heap.size, 2, none⟩ (.int .i64 0)).setCell ⟨w.heap.size, 3, none⟩ (.string ⟨#[]⟩)).setCell ⟨w.heap.size, 4, none⟩ (.slice none 0 0)) := ⟨_, rfl⟩
  rw [← hW7]
  have HB7 : Below w.heap.size w W7 := by rw [hW7]; exact below_set (below_set (below_set (below_set (below_set HBW6 (Nat.le_refl _) _) (Nat.le_refl _) _) (Nat.le_refl _) _) (Nat.le_refl _) _) (Nat.le_refl _) _
  have xr7 : Box W7 w.heap.size #[.int .i64 0, .bool false, .int .i64 0, .string ⟨#[]⟩, .slice none 0 0] := by rw [hW7]; exact ((((xrW6.put 0 _).put 1 _).put 2 _).put 3 _).put 4 _
  refine bodyPost_ret (results_c3 _ rfl rfl (box_load xr7 rfl rfl rfl rfl rfl)) rfl ?_
  exact ⟨rfl, HB7⟩
set_option maxRecDepth 100000 in
set_option maxHeartbeats 3200000 in
theorem rdec_4_short (A : Option Addr) (bs : List Int) (c : Nat) (i : Nat) (w : World) (hr : ReadsB w A bs) (hbt : ∀ x ∈ bs, 0 ≤ x ∧ x < 256) (hi : i < bs.length) (hil : i ≤ 9223372036854770000) (hk : bs.getD i 0 = 4) (hf : ¬ i + 1 + 8 ≤ bs.length) (hT : Lib.Utf8Tabs 0 1 w) :
    Calls Tryd.prog 44 #[.slice A bs.length c, .int .i64 (i : Int)] w fun e w' => e = .returned (.tuple #[.agg #[.int .i64 0, .bool false, .int .i64 0, .string ⟨#[]⟩, .slice none 0 0], .int .i64 0, .int .i64 21]) ∧ Below w.heap.size w w' := by
  have htk : ∀ (q n : Nat) W, Below w.heap.size w W → n ≤ 8 → q ≤ 9223372036854775000 → Calls Tryd.prog 71 #[.slice A bs.length c, .int .i64 (q : Int), .int .i64 (n : Int)] W fun e w' => e = .returned (.tuple #[.int .u64 (takeV bs q n), .bool (takeB bs q n)]) ∧ Below W.heap.size W w' := fun q n W hW hn hq => rtake_any A bs c q n W (hr.below hW) hbt hn hq
  obtain ⟨ad, rfl, hcell⟩ := hr.2 (by omega)
  have hci : ∀ W, Below w.heap.size w W → W.cell? (ad.add i) = some (.int .u8 4) := fun W hW => by
    obtain ⟨ad', e, h⟩ := (hr.below hW).2 (by omega)
    cases e
    rw [h i hi, hk]
  have hmx := hr.1
  have hV0 : takeV bs (i + 1) 8 = 0 := if_neg hf
  have hB : takeB bs (i + 1) 8 = false := decide_eq_false hf
  obtain ⟨x, hx⟩ : ∃ x : Int, x = 0 := ⟨_, rfl⟩
  have hV : takeV bs (i + 1) 8 = x := hV0.trans hx.symm
  have hcw : ∀ W, (convert 43 2 (.int .u64 x)).run Tryd.prog W = .ok (.int .i64 (sgn x)) W := fun W => by
    go_simp
    first | done | rfl
  clear hV0 hx hf
  generalize sgn x = y at hcw
  obtain ⟨R, hRR⟩ : ∃ R, rightB 4 false y ⟨#[]⟩ [] = R := ⟨_, rfl⟩
  obtain ⟨m, hm⟩ : ∃ m, m = bs.length := ⟨_, rfl⟩
  rw [← hm] at hi hmx htk ⊢
  have hii : (i : Int) < (m : Int) := by omega
  have hi0 : (0 : Int) ≤ (i : Int) := by omega
  have hi9 : (i : Int) ≤ 9223372036854770000 := by omega
  have hmi : (m : Int) ≤ 9223372036854775807 := by omega
  have HM := Aside0.mk hm
  have HR := Aside0.mk hr
  have HCI := Aside0.mk hci
  have HT := Aside0.mk hT
  have HRR := Aside0.mk hRR
  clear hm hr hk hcell hci hT hbt hRR
  try clear hright
  go_enter Tryd.func44, Tryd.ntmps44
  go_upto_region 1 with (fail)
  obtain ⟨W1, hW1⟩ : ∃ W1, W1 = w.alloc (.cells #[.int .i64 0, .bool false, .int .i64 0, .string ⟨#[]⟩, .slice none 0 0] 25) := ⟨_, rfl⟩
  rw [← hW1]
  have HB1 : Below w.heap.size w W1 := by rw [hW1]; exact below_more (Below.refl _ _) _
  have xr1 : Box W1 w.heap.size #[.int .i64 0, .bool false, .int .i64 0, .string ⟨#[]⟩, .slice none 0 0] := by rw [hW1]; exact Box.new w _
  have hcx := HCI.out W1 HB1
  clear hW1
  have hnm : ¬ (m : Int) ≤ (i : Int) := by omega
  have hnm2 : ¬ m ≤ i := by omega
  go_upto_region 3 with (fail)
  go_upto_region 4 with (fail)
  obtain ⟨W2, hW2⟩ : ∃ W2, W2 = W1.alloc (.cells #[.int .i64 4, .bool false, .int .i64 0, .string ⟨#[]⟩, .slice none 0 0] 25) := ⟨_, rfl⟩
  obtain ⟨b1, hb1⟩ : ∃ b1, b1 = W1.heap.size := ⟨_, rfl⟩
  rw [← hW2, ← hb1]
  have hb1w : w.heap.size < b1 := by rw [hb1]; exact xr1.lt
  have hne1 : w.heap.size ≠ b1 := by omega
  have hne2 : b1 ≠ w.heap.size := by omega
  have HBW2 : Below w.heap.size w W2 := by rw [hW2]; exact below_more HB1 _
  have xrW2 : Box W2 w.heap.size #[.int .i64 0, .bool false, .int .i64 0, .string ⟨#[]⟩, .slice none 0 0] := by rw [hW2]; exact xr1.more _
  have xvW2 : Box W2 b1 #[.int .i64 4, .bool false, .int .i64 0, .string ⟨#[]⟩, .slice none 0 0] := by rw [hW2, hb1]; exact Box.new W1 _
  have hbrW2 := xrW2.cells
  have hbvW2 := xvW2.cells
  have hfrW2 := xrW2.free
  have hfvW2 := xvW2.free
  clear hW2 hb1 xr1 HB1 hcx
  have ht := fun W (h : Below w.heap.size w W) => htk (i + 1) 8 W h (by decide) (by omega)
  rw [hV, hB] at ht
  have hi1 : ((i + 1 : Nat) : Int) = (i : Int) + 1 := by omega
  have HI1 := Aside0.mk hi1
  rw [hi1] at ht
  clear hi1 htk
  go_wp2_with (go_at_call 71; go_loud (refine (ht _ HBW2).mono ?_))
  first
    | (intro e W3 he hb3; subst he)
    | rintro e W3 ⟨rfl, hb3⟩
  have HBW3 := below_then HBW2 hb3
  have xrW3 := xrW2.kept hb3
  have xvW3 := xvW2.kept hb3
  have hbrW3 := xrW3.cells
  have hbvW3 := xvW3.cells
  have hfrW3 := xrW3.free
  have hfvW3 := xvW3.free
  clear hb3 ht
  clear xrW2 xvW2 hbrW2 hbvW2 hfrW2 hfvW2 HBW2
  go_upto_region 18 with (fail)
  obtain ⟨W4, hW4⟩ : ∃ W, W = W3.setCell ⟨b1, 2, none⟩ (.int .i64 y) := ⟨_, rfl⟩
  rw [← hW4]
  have HBW4 : Below w.heap.size w W4 := by rw [hW4]; exact below_set HBW3 (Nat.le_of_lt hb1w) _
  have xrW4 : Box W4 w.heap.size #[.int .i64 0, .bool false, .int .i64 0, .string ⟨#[]⟩, .slice none 0 0] := by rw [hW4]; exact xrW3.off _ _ (by simp; omega)
  have xvW4 : Box W4 b1 #[.int .i64 4, .bool false, .int .i64 y, .string ⟨#[]⟩, .slice none 0 0] := by rw [hW4]; exact xvW3.put 2 _
  have hbrW4 := xrW4.cells
  have hbvW4 := xvW4.cells
  have hfrW4 := xrW4.free
  have hfvW4 := xvW4.free
  clear hW4
  clear xrW3 xvW3 hbrW3 hbvW3 hfrW3 hfvW3 HBW3
  have hRt := rright_any 4 y false ⟨#[]⟩ none [] 0 W4 ⟨by decide, fun h => absurd h (by decide)⟩ (by decide) (Utf8Tabs_below HT.out HBW4)
  rw [HRR.out] at hRt
  go_wp2_with (go_at_call 38; refine hRt.mono ?_)
  first
    | (intro e W6 he hb6; subst he)
    | rintro e W6 ⟨rfl, hb6⟩
  have HBW6 := below_then HBW4 hb6
  have xrW6 := xrW4.kept hb6
  have xvW6 := xvW4.kept hb6
  have hbrW6 := xrW6.cells
  have hbvW6 := xvW6.cells
  have hfrW6 := xrW6.free
  have hfvW6 := xvW6.free
  clear hb6 hRt
  clear xrW4 xvW4 hbrW4 hbvW4 hfrW4 hfvW4 HBW4
  go_wp2
  obtain ⟨W7, hW7⟩ : ∃ W7, W7 = (((((W6.setCell ⟨w.heap.size, 0, none⟩ (.int .i64 0)).setCell ⟨w.heap.size, 1, none⟩ (.bool false)).setCell ⟨w.heap.size, 2, none⟩ (.int .i64 0)).setCell ⟨w.heap.size, 3, none⟩ (.string ⟨#[]⟩)).setCell ⟨w.heap.size, 4, none⟩ (.slice none 0 0)) := ⟨_, rfl⟩
  rw [← hW7]
  have HB7 : Below w.heap.size w W7 := by rw [hW7]; exact below_set (below_set (below_set (below_set (below_set HBW6 (Nat.le_refl _) _) (Nat.le_refl _) _) (Nat.le_refl _) _) (Nat.le_refl _) _) (Nat.le_refl _) _
  have xr7 : Box W7 w.heap.size #[.int .i64 0, .bool false, .int .i64 0, .string ⟨#[]⟩, .slice none 0 0] := by rw [hW7]; exact ((((xrW6.put 0 _).put 1 _).put 2 _).put 3 _).put 4 _
  refine bodyPost_ret (results_c3 _ rfl rfl (box_load xr7 rfl rfl rfl rfl rfl)) rfl ?_
  exact ⟨rfl, HB7⟩
set_option maxRecDepth 100000 in
set_option maxHeartbeats 3200000 in
theorem rdec_5_short (A : Option Addr) (bs : List Int) (c : Nat) (i : Nat) (w : World) (hr : ReadsB w A bs) (hbt : ∀ x ∈ bs, 0 ≤ x ∧ x < 256) (hi : i < bs.length) (hil : i ≤ 9223372036854770000) (hk : bs.getD i 0 = 5) (hf : ¬ i + 1 + 8 ≤ bs.length) (hT : Lib.Utf8Tabs 0 1 w) :
    Calls Tryd.prog 44 #[.slice A bs.length c, .int .i64 (i : Int)] w fun e w' => e = .returned (.tuple #[.agg #[.int .i64 0, .bool false, .int .i64 0, .string ⟨#[]⟩, .slice none 0 0], .int .i64 0, .int .i64 21]) ∧ Below w.heap.size w w' := by
  have htk : ∀ (q n : Nat) W, Below w.heap.size w W → n ≤ 8 → q ≤ 9223372036854775000 → Calls Tryd.prog 71 #[.slice A bs.length c, .int .i64 (q : Int), .int .i64 (n : Int)] W fun e w' => e = .returned (.tuple #[.int .u64 (takeV bs q n), .bool (takeB bs q n)]) ∧ Below W.heap.size W w' := fun q n W hW hn hq => rtake_any A bs c q n W (hr.below hW) hbt hn hq
  obtain ⟨ad, rfl, hcell⟩ := hr.2 (by omega)
  have hci : ∀ W, Below w.heap.size w W → W.cell? (ad.add i) = some (.int .u8 5) := fun W hW => by
    obtain ⟨ad', e, h⟩ := (hr.below hW).2 (by omega)
    cases e
    rw [h i hi, hk]
  have hmx := hr.1
  have hV0 : takeV bs (i + 1) 8 = 0 := if_neg hf
  have hB : takeB bs (i + 1) 8 = false := decide_eq_false hf
  obtain ⟨x, hx⟩ : ∃ x : Int, x = 0 := ⟨_, rfl⟩
  have hV : takeV bs (i + 1) 8 = x := hV0.trans hx.symm
  have hcw : ∀ W, (convert 43 2 (.int .u64 x)).run Tryd.prog W = .ok (.int .i64 (sgn x)) W := fun W => by
    go_simp
    first | done | rfl
  clear hV0 hx hf
  generalize sgn x = y at hcw
  obtain ⟨R, hRR⟩ : ∃ R, rightB 5 false y ⟨#[]⟩ [] = R := ⟨_, rfl⟩
  obtain ⟨m, hm⟩ : ∃ m, m = bs.length := ⟨_, rfl⟩
  rw [← hm] at hi hmx htk ⊢
  have hii : (i : Int) < (m : Int) := by omega
  have hi0 : (0 : Int) ≤ (i : Int) := by omega
  have hi9 : (i : Int) ≤ 9223372036854770000 := by omega
  have hmi : (m : Int) ≤ 9223372036854775807 := by omega
  have HM := Aside0.mk hm
  have HR := Aside0.mk hr
  have HCI := Aside0.mk hci
  have HT := Aside0.mk hT
  have HRR := Aside0.mk hRR
  clear hm hr hk hcell hci hT hbt hRR
  try clear hright
  go_enter Tryd.func44, Tryd.ntmps44
  go_upto_region 1 with (fail)
  obtain ⟨W1, hW1⟩ : ∃ W1, W1 = w.alloc (.cells #[.int .i64 0, .bool false, .int .i64 0, .string ⟨#[]⟩, .slice none 0 0] 25) := ⟨_, rfl⟩
  rw [← hW1]
  have HB1 : Below w.heap.size w W1 := by rw [hW1]; exact below_more (Below.refl _ _) _
  have xr1 : Box W1 w.heap.size #[.int .i64 0, .bool false, .int .i64 0, .string ⟨#[]⟩, .slice none 0 0] := by rw [hW1]; exact Box.new w _
  have hcx := HCI.out W1 HB1
  clear hW1
  have hnm : ¬ (m : Int) ≤ (i : Int) := by omega
  have hnm2 : ¬ m ≤ i := by omega
  go_upto_region 3 with (fail)
  go_upto_region 4 with (fail)
  obtain ⟨W2, hW2⟩ : ∃ W2, W2 = W1.alloc (.cells #[.int .i64 5, .bool false, .int .i64 0, .string ⟨#[]⟩, .slice none 0 0] 25) := ⟨_, rfl⟩
  obtain ⟨b1, hb1⟩ : ∃ b1, b1 = W1.heap.size := ⟨_, rfl⟩
  rw [← hW2, ← hb1]
  have hb1w : w.heap.size < b1 := by rw [hb1]; exact xr1.lt
  have hne1 : w.heap.size ≠ b1 := by omega
  have hne2 : b1 ≠ w.heap.size := by omega
  have HBW2 : Below w.heap.size w W2 := by rw [hW2]; exact below_more HB1 _
  have xrW2 : Box W2 w.heap.size #[.int .i64 0, .bool false, .int .i64 0, .string ⟨#[]⟩, .slice none 0 0] := by rw [hW2]; exact xr1.more _
  have xvW2 : Box W2 b1 #[.int .i64 5, .bool false, .int .i64 0, .string ⟨#[]⟩, .slice none 0 0] := by rw [hW2, hb1]; exact Box.new W1 _
  have hbrW2 := xrW2.cells
  have hbvW2 := xvW2.cells
  have hfrW2 := xrW2.free
  have hfvW2 := xvW2.free
  clear hW2 hb1 xr1 HB1 hcx
  have ht := fun W (h : Below w.heap.size w W) => htk (i + 1) 8 W h (by decide) (by omega)
  rw [hV, hB] at ht
  have hi1 : ((i + 1 : Nat) : Int) = (i : Int) + 1 := by omega
  have HI1 := Aside0.mk hi1
  rw [hi1] at ht
  clear hi1 htk
  go_wp2_with (go_at_call 71; go_loud (refine (ht _ HBW2).mono ?_))
  first
    | (intro e W3 he hb3; subst he)
    | rintro e W3 ⟨rfl, hb3⟩
  have HBW3 := below_then HBW2 hb3
  have xrW3 := xrW2.kept hb3
  have xvW3 := xvW2.kept hb3
  have hbrW3 := xrW3.cells
  have hbvW3 := xvW3.cells
  have hfrW3 := xrW3.free
  have hfvW3 := xvW3.free
  clear hb3 ht
  clear xrW2 xvW2 hbrW2 hbvW2 hfrW2 hfvW2 HBW2
  go_upto_region 18 with (fail)
  obtain ⟨W4, hW4⟩ : ∃ W, W = W3.setCell ⟨b1, 2, none⟩ (.int .i64 y) := ⟨_, rfl⟩
  rw [← hW4]
  have HBW4 : Below w.heap.size w W4 := by rw [hW4]; exact below_set HBW3 (Nat.le_of_lt hb1w) _
  have xrW4 : Box W4 w.heap.size #[.int .i64 0, .bool false, .int .i64 0, .string ⟨#[]⟩, .slice none 0 0] := by rw [hW4]; exact xrW3.off _ _ (by simp; omega)
  have xvW4 : Box W4 b1 #[.int .i64 5, .bool false, .int .i64 y, .string ⟨#[]⟩, .slice none 0 0] := by rw [hW4]; exact xvW3.put 2 _
  have hbrW4 := xrW4.cells
  have hbvW4 := xvW4.cells
  have hfrW4 := xrW4.free
  have hfvW4 := xvW4.free
  clear hW4
  clear xrW3 xvW3 hbrW3 hbvW3 hfrW3 hfvW3 HBW3
  have hRt := rright_any 5 y false ⟨#[]⟩ none [] 0 W4 ⟨by decide, fun h => absurd h (by decide)⟩ (by decide) (Utf8Tabs_below HT.out HBW4)
  rw [HRR.out] at hRt
  go_wp2_with (go_at_call 38; refine hRt.mono ?_)
  first
    | (intro e W6 he hb6; subst he)
    | rintro e W6 ⟨rfl, hb6⟩
  have HBW6 := below_then HBW4 hb6
  have xrW6 := xrW4.kept hb6
  have xvW6 := xvW4.kept hb6
  have hbrW6 := xrW6.cells
  have hbvW6 := xvW6.cells
  have hfrW6 := xrW6.free
  have hfvW6 := xvW6.free
  clear hb6 hRt
  clear xrW4 xvW4 hbrW4 hbvW4 hfrW4 hfvW4 HBW4
  go_wp2
  obtain ⟨W7, hW7⟩ : ∃ W7, W7 = (((((W6.setCell ⟨w.heap.size, 0, none⟩ (.int .i64 0)).setCell ⟨w.heap.size, 1, none⟩ (.bool false)).setCell ⟨w.heap.size, 2, none⟩ (.int .i64 0)).setCell ⟨w.heap.size, 3, none⟩ (.string ⟨#[]⟩)).setCell ⟨w.heap.size, 4, none⟩ (.slice none 0 0)) := ⟨_, rfl⟩
  rw [← hW7]
  have HB7 : Below w.heap.size w W7 := by rw [hW7]; exact below_set (below_set (below_set (below_set (below_set HBW6 (Nat.le_refl _) _) (Nat.le_refl _) _) (Nat.le_refl _) _) (Nat.le_refl _) _) (Nat.le_refl _) _
  have xr7 : Box W7 w.heap.size #[.int .i64 0, .bool false, .int .i64 0, .string ⟨#[]⟩, .slice none 0 0] := by rw [hW7]; exact ((((xrW6.put 0 _).put 1 _).put 2 _).put 3 _).put 4 _
  refine bodyPost_ret (results_c3 _ rfl rfl (box_load xr7 rfl rfl rfl rfl rfl)) rfl ?_
  exact ⟨rfl, HB7⟩
set_option maxRecDepth 100000 in
set_option maxHeartbeats 3200000 in
theorem rdec_1_ok (A : Option Addr) (bs : List Int) (c : Nat) (i : Nat) (w : World) (hr : ReadsB w A bs) (hbt : ∀ x ∈ bs, 0 ≤ x ∧ x < 256) (hi : i < bs.length) (hil : i ≤ 9223372036854770000) (hk : bs.getD i 0 = 1) (hf : i + 1 + 1 ≤ bs.length) (hx1 : beI ((bs.drop (i + 1)).take 1) ≤ 1) (hT : Lib.Utf8Tabs 0 1 w) :
    Calls Tryd.prog 44 #[.slice A bs.length c, .int .i64 (i : Int)] w fun e w' => e = .returned (.tuple #[.agg #[.int .i64 1, .bool (beI ((bs.drop (i + 1)).take 1) == 1), .int .i64 0, .string ⟨#[]⟩, .slice none 0 0], .int .i64 ((i : Int) + 2), .int .i64 0]) ∧ Below w.heap.size w w' := by
  have htk : ∀ (q n : Nat) W, Below w.heap.size w W → n ≤ 8 → q ≤ 9223372036854775000 → Calls Tryd.prog 71 #[.slice A bs.length c, .int .i64 (q : Int), .int .i64 (n : Int)] W fun e w' => e = .returned (.tuple #[.int .u64 (takeV bs q n), .bool (takeB bs q n)]) ∧ Below W.heap.size W w' := fun q n W hW hn hq => rtake_any A bs c q n W (hr.below hW) hbt hn hq
  obtain ⟨ad, rfl, hcell⟩ := hr.2 (by omega)
  have hci : ∀ W, Below w.heap.size w W → W.cell? (ad.add i) = some (.int .u8 1) := fun W hW => by
    obtain ⟨ad', e, h⟩ := (hr.below hW).2 (by omega)
    cases e
    rw [h i hi, hk]
  have hmx := hr.1
  obtain ⟨x, hxx⟩ : ∃ x, x = beI ((bs.drop (i + 1)).take 1) := ⟨_, rfl⟩
  have hV : takeV bs (i + 1) 1 = x := (if_pos hf).trans hxx.symm
  have hB : takeB bs (i + 1) 1 = true := decide_eq_true hf
  rw [← hxx] at hx1 ⊢
  obtain ⟨bb, hbb⟩ : ∃ bb, (x == 1) = bb := ⟨_, rfl⟩
  have hRR : rightB 1 bb 0 ⟨#[]⟩ [] = true := by cases bb <;> decide
  rw [hbb]
  clear hxx hf
  obtain ⟨m, hm⟩ : ∃ m, m = bs.length := ⟨_, rfl⟩
  rw [← hm] at hi hmx htk ⊢
  have hii : (i : Int) < (m : Int) := by omega
  have hi0 : (0 : Int) ≤ (i : Int) := by omega
  have hi9 : (i : Int) ≤ 9223372036854770000 := by omega
  have hmi : (m : Int) ≤ 9223372036854775807 := by omega
  have HM := Aside0.mk hm
  have HR := Aside0.mk hr
  have HCI := Aside0.mk hci
  have HT := Aside0.mk hT
  have HRR := Aside0.mk hRR
  clear hm hr hk hcell hci hT hbt hRR
  try clear hright
  go_enter Tryd.func44, Tryd.ntmps44
  go_upto_region 1 with (fail)
  obtain ⟨W1, hW1⟩ : ∃ W1, W1 = w.alloc (.cells #[.int .i64 0, .bool false, .int .i64 0, .string ⟨#[]⟩, .slice none 0 0] 25) := ⟨_, rfl⟩
  rw [← hW1]
  have HB1 : Below w.heap.size w W1 := by rw [hW1]; exact below_more (Below.refl _ _) _
  have xr1 : Box W1 w.heap.size #[.int .i64 0, .bool false, .int .i64 0, .string ⟨#[]⟩, .slice none 0 0] := by rw [hW1]; exact Box.new w _
  have hcx := HCI.out W1 HB1
  clear hW1
  have hnm : ¬ (m : Int) ≤ (i : Int) := by omega
  have hnm2 : ¬ m ≤ i := by omega
  go_upto_region 3 with (fail)
  go_upto_region 4 with (fail)
  obtain ⟨W2, hW2⟩ : ∃ W2, W2 = W1.alloc (.cells #[.int .i64 1, .bool false, .int .i64 0, .string ⟨#[]⟩, .slice none 0 0] 25) := ⟨_, rfl⟩
  obtain ⟨b1, hb1⟩ : ∃ b1, b1 = W1.heap.size := ⟨_, rfl⟩
  rw [← hW2, ← hb1]
  have hb1w : w.heap.size < b1 := by rw [hb1]; exact xr1.lt
  have hne1 : w.heap.size ≠ b1 := by omega
  have hne2 : b1 ≠ w.heap.size := by omega
  have HBW2 : Below w.heap.size w W2 := by rw [hW2]; exact below_more HB1 _
  have xrW2 : Box W2 w.heap.size #[.int .i64 0, .bool false, .int .i64 0, .string ⟨#[]⟩, .slice none 0 0] := by rw [hW2]; exact xr1.more _
  have xvW2 : Box W2 b1 #[.int .i64 1, .bool false, .int .i64 0, .string ⟨#[]⟩, .slice none 0 0] := by rw [hW2, hb1]; exact Box.new W1 _
  have hbrW2 := xrW2.cells
  have hbvW2 := xvW2.cells
  have hfrW2 := xrW2.free
  have hfvW2 := xvW2.free
  clear hW2 hb1 xr1 HB1 hcx
  have ht := fun W (h : Below w.heap.size w W) => htk (i + 1) 1 W h (by decide) (by omega)
  rw [hV, hB] at ht
  have hi1 : ((i + 1 : Nat) : Int) = (i : Int) + 1 := by omega
  have HI1 := Aside0.mk hi1
  rw [hi1] at ht
  clear hi1 htk
  go_wp2_with (go_at_call 71; go_loud (refine (ht _ HBW2).mono ?_))
  first
    | (intro e W3 he hb3; subst he)
    | rintro e W3 ⟨rfl, hb3⟩
  have HBW3 := below_then HBW2 hb3
  have xrW3 := xrW2.kept hb3
  have xvW3 := xvW2.kept hb3
  have hbrW3 := xrW3.cells
  have hbvW3 := xvW3.cells
  have hfrW3 := xrW3.free
  have hfvW3 := xvW3.free
  clear hb3 ht
  clear xrW2 xvW2 hbrW2 hbvW2 hfrW2 hfvW2 HBW2
  go_upto_region 11 with (fail)
  obtain ⟨W4, hW4⟩ : ∃ W, W = W3.setCell ⟨b1, 1, none⟩ (.bool bb) := ⟨_, rfl⟩
  rw [← hW4]
  have HBW4 : Below w.heap.size w W4 := by rw [hW4]; exact below_set HBW3 (Nat.le_of_lt hb1w) _
  have xrW4 : Box W4 w.heap.size #[.int .i64 0, .bool false, .int .i64 0, .string ⟨#[]⟩, .slice none 0 0] := by rw [hW4]; exact xrW3.off _ _ (by simp; omega)
  have xvW4 : Box W4 b1 #[.int .i64 1, .bool bb, .int .i64 0, .string ⟨#[]⟩, .slice none 0 0] := by rw [hW4]; exact xvW3.put 1 _
  have hbrW4 := xrW4.cells
  have hbvW4 := xvW4.cells
  have hfrW4 := xrW4.free
  have hfvW4 := xvW4.free
  clear hW4
  clear xrW3 xvW3 hbrW3 hbvW3 hfrW3 hfvW3 HBW3
  have hRt := rright_any 1 0 bb ⟨#[]⟩ none [] 0 W4 ⟨by decide, fun h => absurd h (by decide)⟩ (by decide) (Utf8Tabs_below HT.out HBW4)
  rw [HRR.out] at hRt
  go_wp2_with (go_at_call 38; refine hRt.mono ?_)
  first
    | (intro e W6 he hb6; subst he)
    | rintro e W6 ⟨rfl, hb6⟩
  have HBW6 := below_then HBW4 hb6
  have xrW6 := xrW4.kept hb6
  have xvW6 := xvW4.kept hb6
  have hbrW6 := xrW6.cells
  have hbvW6 := xvW6.cells
  have hfrW6 := xrW6.free
  have hfvW6 := xvW6.free
  clear hb6 hRt
  clear xrW4 xvW4 hbrW4 hbvW4 hfrW4 hfvW4 HBW4
  go_wp2
  obtain ⟨W7, hW7⟩ : ∃ W7, W7 = (((((W6.setCell ⟨w.heap.size, 0, none⟩ (.int .i64 1)).setCell ⟨w.heap.size, 1, none⟩ (.bool bb)).setCell ⟨w.heap.size, 2, none⟩ (.int .i64 0)).setCell ⟨w.heap.size, 3, none⟩ (.string ⟨#[]⟩)).setCell ⟨w.heap.size, 4, none⟩ (.slice none 0 0)) := ⟨_, rfl⟩
  rw [← hW7]
  have HB7 : Below w.heap.size w W7 := by rw [hW7]; exact below_set (below_set (below_set (below_set (below_set HBW6 (Nat.le_refl _) _) (Nat.le_refl _) _) (Nat.le_refl _) _) (Nat.le_refl _) _) (Nat.le_refl _) _
  have xr7 : Box W7 w.heap.size #[.int .i64 1, .bool bb, .int .i64 0, .string ⟨#[]⟩, .slice none 0 0] := by rw [hW7]; exact ((((xrW6.put 0 _).put 1 _).put 2 _).put 3 _).put 4 _
  refine bodyPost_ret (results_c3 _ rfl rfl (box_load xr7 rfl rfl rfl rfl rfl)) rfl ?_
  exact ⟨rfl, HB7⟩
set_option maxRecDepth 100000 in
set_option maxHeartbeats 3200000 in
theorem rdec_1_not (A : Option Addr) (bs : List Int) (c : Nat) (i : Nat) (w : World) (hr : ReadsB w A bs) (hbt : ∀ x ∈ bs, 0 ≤ x ∧ x < 256) (hi : i < bs.length) (hil : i ≤ 9223372036854770000) (hk : bs.getD i 0 = 1) (hf : i + 1 + 1 ≤ bs.length) (hx1 : ¬ beI ((bs.drop (i + 1)).take 1) ≤ 1) (hT : Lib.Utf8Tabs 0 1 w) :
    Calls Tryd.prog 44 #[.slice A bs.length c, .int .i64 (i : Int)] w fun e w' => e = .returned (.tuple #[.agg #[.int .i64 0, .bool false, .int .i64 0, .string ⟨#[]⟩, .slice none 0 0], .int .i64 0, .int .i64 21]) ∧ Below w.heap.size w w' := by
  have htk : ∀ (q n : Nat) W, Below w.heap.size w W → n ≤ 8 → q ≤ 9223372036854775000 → Calls Tryd.prog 71 #[.slice A bs.length c, .int .i64 (q : Int), .int .i64 (n : Int)] W fun e w' => e = .returned (.tuple #[.int .u64 (takeV bs q n), .bool (takeB bs q n)]) ∧ Below W.heap.size W w' := fun q n W hW hn hq => rtake_any A bs c q n W (hr.below hW) hbt hn hq
  obtain ⟨ad, rfl, hcell⟩ := hr.2 (by omega)
  have hci : ∀ W, Below w.heap.size w W → W.cell? (ad.add i) = some (.int .u8 1) := fun W hW => by
    obtain ⟨ad', e, h⟩ := (hr.below hW).2 (by omega)
    cases e
    rw [h i hi, hk]
  have hmx := hr.1
  obtain ⟨x, hxx⟩ : ∃ x, x = beI ((bs.drop (i + 1)).take 1) := ⟨_, rfl⟩
  have hV : takeV bs (i + 1) 1 = x := (if_pos hf).trans hxx.symm
  have hB : takeB bs (i + 1) 1 = true := decide_eq_true hf
  rw [← hxx] at hx1
  obtain ⟨bb, hbb⟩ : ∃ bb, (x == 1) = bb := ⟨_, rfl⟩
  obtain ⟨R, hRR⟩ : ∃ R, rightB 1 bb 0 ⟨#[]⟩ [] = R := ⟨_, rfl⟩
  clear hxx hf
  obtain ⟨m, hm⟩ : ∃ m, m = bs.length := ⟨_, rfl⟩
  rw [← hm] at hi hmx htk ⊢
  have hii : (i : Int) < (m : Int) := by omega
  have hi0 : (0 : Int) ≤ (i : Int) := by omega
  have hi9 : (i : Int) ≤ 9223372036854770000 := by omega
  have hmi : (m : Int) ≤ 9223372036854775807 := by omega
  have HM := Aside0.mk hm
  have HR := Aside0.mk hr
  have HCI := Aside0.mk hci
  have HT := Aside0.mk hT
  have HRR := Aside0.mk hRR
  clear hm hr hk hcell hci hT hbt hRR
  try clear hright
  go_enter Tryd.func44, Tryd.ntmps44
  go_upto_region 1 with (fail)
  obtain ⟨W1, hW1⟩ : ∃ W1, W1 = w.alloc (.cells #[.int .i64 0, .bool false, .int .i64 0, .string ⟨#[]⟩, .slice none 0 0] 25) := ⟨_, rfl⟩
  rw [← hW1]
  have HB1 : Below w.heap.size w W1 := by rw [hW1]; exact below_more (Below.refl _ _) _
  have xr1 : Box W1 w.heap.size #[.int .i64 0, .bool false, .int .i64 0, .string ⟨#[]⟩, .slice none 0 0] := by rw [hW1]; exact Box.new w _
  have hcx := HCI.out W1 HB1
  clear hW1
  have hnm : ¬ (m : Int) ≤ (i : Int) := by omega
  have hnm2 : ¬ m ≤ i := by omega
  go_upto_region 3 with (fail)
  go_upto_region 4 with (fail)
  obtain ⟨W2, hW2⟩ : ∃ W2, W2 = W1.alloc (.cells #[.int .i64 1, .bool false, .int .i64 0, .string ⟨#[]⟩, .slice none 0 0] 25) := ⟨_, rfl⟩
  obtain ⟨b1, hb1⟩ : ∃ b1, b1 = W1.heap.size := ⟨_, rfl⟩
  rw [← hW2, ← hb1]
  have hb1w : w.heap.size < b1 := by rw [hb1]; exact xr1.lt
  have hne1 : w.heap.size ≠ b1 := by omega
  have hne2 : b1 ≠ w.heap.size := by omega
  have HBW2 : Below w.heap.size w W2 := by rw [hW2]; exact below_more HB1 _
  have xrW2 : Box W2 w.heap.size #[.int .i64 0, .bool false, .int .i64 0, .string ⟨#[]⟩, .slice none 0 0] := by rw [hW2]; exact xr1.more _
  have xvW2 : Box W2 b1 #[.int .i64 1, .bool false, .int .i64 0, .string ⟨#[]⟩, .slice none 0 0] := by rw [hW2, hb1]; exact Box.new W1 _
  have hbrW2 := xrW2.cells
  have hbvW2 := xvW2.cells
  have hfrW2 := xrW2.free
  have hfvW2 := xvW2.free
  clear hW2 hb1 xr1 HB1 hcx
  have ht := fun W (h : Below w.heap.size w W) => htk (i + 1) 1 W h (by decide) (by omega)
  rw [hV, hB] at ht
  have hi1 : ((i + 1 : Nat) : Int) = (i : Int) + 1 := by omega
  have HI1 := Aside0.mk hi1
  rw [hi1] at ht
  clear hi1 htk
  go_wp2_with (go_at_call 71; go_loud (refine (ht _ HBW2).mono ?_))
  first
    | (intro e W3 he hb3; subst he)
    | rintro e W3 ⟨rfl, hb3⟩
  have HBW3 := below_then HBW2 hb3
  have xrW3 := xrW2.kept hb3
  have xvW3 := xvW2.kept hb3
  have hbrW3 := xrW3.cells
  have hbvW3 := xvW3.cells
  have hfrW3 := xrW3.free
  have hfvW3 := xvW3.free
  clear hb3 ht
  clear xrW2 xvW2 hbrW2 hbvW2 hfrW2 hfvW2 HBW2
  go_upto_region 11 with (fail)
  obtain ⟨W4, hW4⟩ : ∃ W, W = W3.setCell ⟨b1, 1, none⟩ (.bool bb) := ⟨_, rfl⟩
  rw [← hW4]
  have HBW4 : Below w.heap.size w W4 := by rw [hW4]; exact below_set HBW3 (Nat.le_of_lt hb1w) _
  have xrW4 : Box W4 w.heap.size #[.int .i64 0, .bool false, .int .i64 0, .string ⟨#[]⟩, .slice none 0 0] := by rw [hW4]; exact xrW3.off _ _ (by simp; omega)
  have xvW4 : Box W4 b1 #[.int .i64 1, .bool bb, .int .i64 0, .string ⟨#[]⟩, .slice none 0 0] := by rw [hW4]; exact xvW3.put 1 _
  have hbrW4 := xrW4.cells
  have hbvW4 := xvW4.cells
  have hfrW4 := xrW4.free
  have hfvW4 := xvW4.free
  clear hW4
  clear xrW3 xvW3 hbrW3 hbvW3 hfrW3 hfvW3 HBW3
  have hRt := rright_any 1 0 bb ⟨#[]⟩ none [] 0 W4 ⟨by decide, fun h => absurd h (by decide)⟩ (by decide) (Utf8Tabs_below HT.out HBW4)
  rw [HRR.out] at hRt
  go_wp2_with (go_at_call 38; refine hRt.mono ?_)
  first
    | (intro e W6 he hb6; subst he)
    | rintro e W6 ⟨rfl, hb6⟩
  have HBW6 := below_then HBW4 hb6
  have xrW6 := xrW4.kept hb6
  have xvW6 := xvW4.kept hb6
  have hbrW6 := xrW6.cells
  have hbvW6 := xvW6.cells
  have hfrW6 := xrW6.free
  have hfvW6 := xvW6.free
  clear hb6 hRt
  clear xrW4 xvW4 hbrW4 hbvW4 hfrW4 hfvW4 HBW4
  go_wp2
  obtain ⟨W7, hW7⟩ : ∃ W7, W7 = (((((W6.setCell ⟨w.heap.size, 0, none⟩ (.int .i64 0)).setCell ⟨w.heap.size, 1, none⟩ (.bool false)).setCell ⟨w.heap.size, 2, none⟩ (.int .i64 0)).setCell ⟨w.heap.size, 3, none⟩ (.string ⟨#[]⟩)).setCell ⟨w.heap.size, 4, none⟩ (.slice none 0 0)) := ⟨_, rfl⟩
  rw [← hW7]
  have HB7 : Below w.heap.size w W7 := by rw [hW7]; exact below_set (below_set (below_set (below_set (below_set HBW6 (Nat.le_refl _) _) (Nat.le_refl _) _) (Nat.le_refl _) _) (Nat.le_refl _) _) (Nat.le_refl _) _
  have xr7 : Box W7 w.heap.size #[.int .i64 0, .bool false, .int .i64 0, .string ⟨#[]⟩, .slice none 0 0] := by rw [hW7]; exact ((((xrW6.put 0 _).put 1 _).put 2 _).put 3 _).put 4 _
  refine bodyPost_ret (results_c3 _ rfl rfl (box_load xr7 rfl rfl rfl rfl rfl)) rfl ?_
  exact ⟨rfl, HB7⟩
set_option maxRecDepth 100000 in
set_option maxHeartbeats 3200000 in
theorem rdec_1_short (A : Option Addr) (bs : List Int) (c : Nat) (i : Nat) (w : World) (hr : ReadsB w A bs) (hbt : ∀ x ∈ bs, 0 ≤ x ∧ x < 256) (hi : i < bs.length) (hil : i ≤ 9223372036854770000) (hk : bs.getD i 0 = 1) (hf : ¬ i + 1 + 1 ≤ bs.length) (hT : Lib.Utf8Tabs 0 1 w) :
    Calls Tryd.prog 44 #[.slice A bs.length c, .int .i64 (i : Int)] w fun e w' => e = .returned (.tuple #[.agg #[.int .i64 0, .bool false, .int .i64 0, .string ⟨#[]⟩, .slice none 0 0], .int .i64 0, .int .i64 21]) ∧ Below w.heap.size w w' := by
  have htk : ∀ (q n : Nat) W, Below w.heap.size w W → n ≤ 8 → q ≤ 9223372036854775000 → Calls Tryd.prog 71 #[.slice A bs.length c, .int .i64 (q : Int), .int .i64 (n : Int)] W fun e w' => e = .returned (.tuple #[.int .u64 (takeV bs q n), .bool (takeB bs q n)]) ∧ Below W.heap.size W w' := fun q n W hW hn hq => rtake_any A bs c q n W (hr.below hW) hbt hn hq
  obtain ⟨ad, rfl, hcell⟩ := hr.2 (by omega)
  have hci : ∀ W, Below w.heap.size w W → W.cell? (ad.add i) = some (.int .u8 1) := fun W hW => by
    obtain ⟨ad', e, h⟩ := (hr.below hW).2 (by omega)
    cases e
    rw [h i hi, hk]
  have hmx := hr.1
  have hV0 : takeV bs (i + 1) 1 = 0 := if_neg hf
  have hB : takeB bs (i + 1) 1 = false := decide_eq_false hf
  obtain ⟨x, hx⟩ : ∃ x : Int, x = 0 := ⟨_, rfl⟩
  have hV : takeV bs (i + 1) 1 = x := hV0.trans hx.symm
  obtain ⟨bb, hbb⟩ : ∃ bb, (x == 1) = bb := ⟨_, rfl⟩
  obtain ⟨R, hRR⟩ : ∃ R, rightB 1 bb 0 ⟨#[]⟩ [] = R := ⟨_, rfl⟩
  clear hV0 hx hf
  obtain ⟨m, hm⟩ : ∃ m, m = bs.length := ⟨_, rfl⟩
  rw [← hm] at hi hmx htk ⊢
  have hii : (i : Int) < (m : Int) := by omega
  have hi0 : (0 : Int) ≤ (i : Int) := by omega
  have hi9 : (i : Int) ≤ 9223372036854770000 := by omega
  have hmi : (m : Int) ≤ 9223372036854775807 := by omega
  have HM := Aside0.mk hm
  have HR := Aside0.mk hr
  have HCI := Aside0.mk hci
  have HT := Aside0.mk hT
  have HRR := Aside0.mk hRR
  clear hm hr hk hcell hci hT hbt hRR
  try clear hright
  go_enter Tryd.func44, Tryd.ntmps44
  go_upto_region 1 with (fail)
  obtain ⟨W1, hW1⟩ : ∃ W1, W1 = w.alloc (.cells #[.int .i64 0, .bool false, .int .i64 0, .string ⟨#[]⟩, .slice none 0 0] 25) := ⟨_, rfl⟩
  rw [← hW1]
  have HB1 : Below w.heap.size w W1 := by rw [hW1]; exact below_more (Below.refl _ _) _
  have xr1 : Box W1 w.heap.size #[.int .i64 0, .bool false, .int .i64 0, .string ⟨#[]⟩, .slice none 0 0] := by rw [hW1]; exact Box.new w _
  have hcx := HCI.out W1 HB1
  clear hW1
  have hnm : ¬ (m : Int) ≤ (i : Int) := by omega
  have hnm2 : ¬ m ≤ i := by omega
  go_upto_region 3 with (fail)
  go_upto_region 4 with (fail)
  obtain ⟨W2, hW2⟩ : ∃ W2, W2 = W1.alloc (.cells #[.int .i64 1, .bool false, .int .i64 0, .string ⟨#[]⟩, .slice none 0 0] 25) := ⟨_, rfl⟩
  obtain ⟨b1, hb1⟩ : ∃ b1, b1 = W1.heap.size := ⟨_, rfl⟩
  rw [← hW2, ← hb1]
  have hb1w : w.heap.size < b1 := by rw [hb1]; exact xr1.lt
  have hne1 : w.heap.size ≠ b1 := by omega
  have hne2 : b1 ≠ w.heap.size := by omega
  have HBW2 : Below w.heap.size w W2 := by rw [hW2]; exact below_more HB1 _
  have xrW2 : Box W2 w.heap.size #[.int .i64 0, .bool false, .int .i64 0, .string ⟨#[]⟩, .slice none 0 0] := by rw [hW2]; exact xr1.more _
  have xvW2 : Box W2 b1 #[.int .i64 1, .bool false, .int .i64 0, .string ⟨#[]⟩, .slice none 0 0] := by rw [hW2, hb1]; exact Box.new W1 _
  have hbrW2 := xrW2.cells
  have hbvW2 := xvW2.cells
  have hfrW2 := xrW2.free
  have hfvW2 := xvW2.free
  clear hW2 hb1 xr1 HB1 hcx
  have ht := fun W (h : Below w.heap.size w W) => htk (i + 1) 1 W h (by decide) (by omega)
  rw [hV, hB] at ht
  have hi1 : ((i + 1 : Nat) : Int) = (i : Int) + 1 := by omega
  have HI1 := Aside0.mk hi1
  rw [hi1] at ht
  clear hi1 htk
  go_wp2_with (go_at_call 71; go_loud (refine (ht _ HBW2).mono ?_))
  first
    | (intro e W3 he hb3; subst he)
    | rintro e W3 ⟨rfl, hb3⟩
  have HBW3 := below_then HBW2 hb3
  have xrW3 := xrW2.kept hb3
  have xvW3 := xvW2.kept hb3
  have hbrW3 := xrW3.cells
  have hbvW3 := xvW3.cells
  have hfrW3 := xrW3.free
  have hfvW3 := xvW3.free
  clear hb3 ht
  clear xrW2 xvW2 hbrW2 hbvW2 hfrW2 hfvW2 HBW2
  go_upto_region 11 with (fail)
  obtain ⟨W4, hW4⟩ : ∃ W, W = W3.setCell ⟨b1, 1, none⟩ (.bool bb) := ⟨_, rfl⟩
  rw [← hW4]
  have HBW4 : Below w.heap.size w W4 := by rw [hW4]; exact below_set HBW3 (Nat.le_of_lt hb1w) _
  have xrW4 : Box W4 w.heap.size #[.int .i64 0, .bool false, .int .i64 0, .string ⟨#[]⟩, .slice none 0 0] := by rw [hW4]; exact xrW3.off _ _ (by simp; omega)
  have xvW4 : Box W4 b1 #[.int .i64 1, .bool bb, .int .i64 0, .string ⟨#[]⟩, .slice none 0 0] := by rw [hW4]; exact xvW3.put 1 _
  have hbrW4 := xrW4.cells
  have hbvW4 := xvW4.cells
  have hfrW4 := xrW4.free
  have hfvW4 := xvW4.free
  clear hW4
  clear xrW3 xvW3 hbrW3 hbvW3 hfrW3 hfvW3 HBW3
  have hRt := rright_any 1 0 bb ⟨#[]⟩ none [] 0 W4 ⟨by decide, fun h => absurd h (by decide)⟩ (by decide) (Utf8Tabs_below HT.out HBW4)
  rw [HRR.out] at hRt
  go_wp2_with (go_at_call 38; refine hRt.mono ?_)
  first
    | (intro e W6 he hb6; subst he)
    | rintro e W6 ⟨rfl, hb6⟩
  have HBW6 := below_then HBW4 hb6
  have xrW6 := xrW4.kept hb6
  have xvW6 := xvW4.kept hb6
  have hbrW6 := xrW6.cells
  have hbvW6 := xvW6.cells
  have hfrW6 := xrW6.free
  have hfvW6 := xvW6.free
  clear hb6 hRt
  clear xrW4 xvW4 hbrW4 hbvW4 hfrW4 hfvW4 HBW4
  go_wp2
  obtain ⟨W7, hW7⟩ : ∃ W7, W7 = (((((W6.setCell ⟨w.heap.size, 0, none⟩ (.int .i64 0)).setCell ⟨w.heap.size, 1, none⟩ (.bool false)).setCell ⟨w.heap.size, 2, none⟩ (.int .i64 0)).setCell ⟨w.heap.size, 3, none⟩ (.string ⟨#[]⟩)).setCell ⟨w.heap.size, 4, none⟩ (.slice none 0 0)) := ⟨_, rfl⟩
  rw [← hW7]
  have HB7 : Below w.heap.size w W7 := by rw [hW7]; exact below_set (below_set (below_set (below_set (below_set HBW6 (Nat.le_refl _) _) (Nat.le_refl _) _) (Nat.le_refl _) _) (Nat.le_refl _) _) (Nat.le_refl _) _
  have xr7 : Box W7 w.heap.size #[.int .i64 0, .bool false, .int .i64 0, .string ⟨#[]⟩, .slice none 0 0] := by rw [hW7]; exact ((((xrW6.put 0 _).put 1 _).put 2 _).put 3 _).put 4 _
  refine bodyPost_ret (results_c3 _ rfl rfl (box_load xr7 rfl rfl rfl rfl rfl)) rfl ?_
  exact ⟨rfl, HB7⟩
set_option maxRecDepth 100000 in
set_option maxHeartbeats 3200000 in
theorem rdec_range (A : Option Addr) (bs : List Int) (c : Nat) (z : Int) (w : World) (hl : bs.length ≤ 9223372036854775807) (hz : z < 0 ∨ (bs.length : Int) ≤ z) :
    Calls Tryd.prog 44 #[.slice A bs.length c, .int .i64 z] w fun e w' => e = .returned (.tuple #[.agg #[.int .i64 0, .bool false, .int .i64 0, .string ⟨#[]⟩, .slice none 0 0], .int .i64 0, .int .i64 21]) ∧ Below w.heap.size w w' := by
  generalize bs.length = m at hl hz ⊢
  by_cases h0 : z < 0
  · clear hz
    go_enter Tryd.func44, Tryd.ntmps44
    go_upto_region 1 with (fail)
    obtain ⟨W1, hW1⟩ : ∃ W1, W1 = w.alloc (.cells #[.int .i64 0, .bool false, .int .i64 0, .string ⟨#[]⟩, .slice none 0 0] 25) := ⟨_, rfl⟩
    rw [← hW1]
    have HB1 : Below w.heap.size w W1 := by rw [hW1]; exact below_more (Below.refl _ _) _
    have xr1 : Box W1 w.heap.size #[.int .i64 0, .bool false, .int .i64 0, .string ⟨#[]⟩, .slice none 0 0] := by rw [hW1]; exact Box.new w _
    have hbr1 := xr1.cells
    have hfr1 := xr1.free
    clear hW1
    go_wp2
    obtain ⟨W7, hW7⟩ : ∃ W7, W7 = (((((W1.setCell ⟨w.heap.size, 0, none⟩ (.int .i64 0)).setCell ⟨w.heap.size, 1, none⟩ (.bool false)).setCell ⟨w.heap.size, 2, none⟩ (.int .i64 0)).setCell ⟨w.heap.size, 3, none⟩ (.string ⟨#[]⟩)).setCell ⟨w.heap.size, 4, none⟩ (.slice none 0 0)) := ⟨_, rfl⟩
    rw [← hW7]
    have HB7 : Below w.heap.size w W7 := by rw [hW7]; exact below_set (below_set (below_set (below_set (below_set HB1 (Nat.le_refl _) _) (Nat.le_refl _) _) (Nat.le_refl _) _) (Nat.le_refl _) _) (Nat.le_refl _) _
    have xr7 : Box W7 w.heap.size #[.int .i64 0, .bool false, .int .i64 0, .string ⟨#[]⟩, .slice none 0 0] := by rw [hW7]; exact ((((xr1.put 0 _).put 1 _).put 2 _).put 3 _).put 4 _
    refine bodyPost_ret (results_c3 _ rfl rfl (box_load xr7 rfl rfl rfl rfl rfl)) rfl ?_
    exact ⟨rfl, HB7⟩
  · have h1 : (m : Int) ≤ z := by omega
    have h2 : ¬ z < (m : Int) := by omega
    clear hz
    go_enter Tryd.func44, Tryd.ntmps44
    go_upto_region 1 with (fail)
    obtain ⟨W1, hW1⟩ : ∃ W1, W1 = w.alloc (.cells #[.int .i64 0, .bool false, .int .i64 0, .string ⟨#[]⟩, .slice none 0 0] 25) := ⟨_, rfl⟩
    rw [← hW1]
    have HB1 : Below w.heap.size w W1 := by rw [hW1]; exact below_more (Below.refl _ _) _
    have xr1 : Box W1 w.heap.size #[.int .i64 0, .bool false, .int .i64 0, .string ⟨#[]⟩, .slice none 0 0] := by rw [hW1]; exact Box.new w _
    have hbr1 := xr1.cells
    have hfr1 := xr1.free
    clear hW1
    go_wp2
    obtain ⟨W7, hW7⟩ : ∃ W7, W7 = (((((W1.setCell ⟨w.heap.size, 0, none⟩ (.int .i64 0)).setCell ⟨w.heap.size, 1, none⟩ (.bool false)).setCell ⟨w.heap.size, 2, none⟩ (.int .i64 0)).setCell ⟨w.heap.size, 3, none⟩ (.string ⟨#[]⟩)).setCell ⟨w.heap.size, 4, none⟩ (.slice none 0 0)) := ⟨_, rfl⟩
    rw [← hW7]
    have HB7 : Below w.heap.size w W7 := by rw [hW7]; exact below_set (below_set (below_set (below_set (below_set HB1 (Nat.le_refl _) _) (Nat.le_refl _) _) (Nat.le_refl _) _) (Nat.le_refl _) _) (Nat.le_refl _) _
    have xr7 : Box W7 w.heap.size #[.int .i64 0, .bool false, .int .i64 0, .string ⟨#[]⟩, .slice none 0 0] := by rw [hW7]; exact ((((xr1.put 0 _).put 1 _).put 2 _).put 3 _).put 4 _
    refine bodyPost_ret (results_c3 _ rfl rfl (box_load xr7 rfl rfl rfl rfl rfl)) rfl ?_
    exact ⟨rfl, HB7⟩
set_option maxRecDepth 100000 in
set_option maxHeartbeats 3200000 in
theorem rdec_kind (A : Option Addr) (bs : List Int) (c : Nat) (i : Nat) (w : World) (hr : ReadsB w A bs) (hi : i < bs.length) (hk : 6 < bs.getD i 0) :
    Calls Tryd.prog 44 #[.slice A bs.length c, .int .i64 (i : Int)] w fun e w' => e = .returned (.tuple #[.agg #[.int .i64 0, .bool false, .int .i64 0, .string ⟨#[]⟩, .slice none 0 0], .int .i64 0, .int .i64 21]) ∧ Below w.heap.size w w' := by
  obtain ⟨ad, rfl, hcell⟩ := hr.2 (by omega)
  have hci : ∀ W, Below w.heap.size w W → W.cell? (ad.add i) = some (.int .u8 (bs.getD i 0)) := fun W hW => by
    obtain ⟨ad', e, h⟩ := (hr.below hW).2 (by omega)
    cases e
    rw [h i hi]
  have hmx := hr.1
  generalize bs.getD i 0 = x at hk hci
  clear hr hcell
  generalize bs.length = m at hi hmx ⊢
  have hii : (i : Int) < (m : Int) := by omega
  have hnm : ¬ (m : Int) ≤ (i : Int) := by omega
  have hnm2 : ¬ m ≤ i := by omega
  have hi0 : (0 : Int) ≤ (i : Int) := by omega
  have HCI := Aside0.mk hci
  clear hci
  go_enter Tryd.func44, Tryd.ntmps44
  go_upto_region 1 with (fail)
  obtain ⟨W1, hW1⟩ : ∃ W1, W1 = w.alloc (.cells #[.int .i64 0, .bool false, .int .i64 0, .string ⟨#[]⟩, .slice none 0 0] 25) := ⟨_, rfl⟩
  rw [← hW1]
  have HB1 : Below w.heap.size w W1 := by rw [hW1]; exact below_more (Below.refl _ _) _
  have xr1 : Box W1 w.heap.size #[.int .i64 0, .bool false, .int .i64 0, .string ⟨#[]⟩, .slice none 0 0] := by rw [hW1]; exact Box.new w _
  have hcx := HCI.out W1 HB1
  have hbr1 := xr1.cells
  have hfr1 := xr1.free
  clear hW1
  go_wp2
  obtain ⟨W7, hW7⟩ : ∃ W7, W7 = (((((W1.setCell ⟨w.heap.size, 0, none⟩ (.int .i64 0)).setCell ⟨w.heap.size, 1, none⟩ (.bool false)).setCell ⟨w.heap.size, 2, none⟩ (.int .i64 0)).setCell ⟨w.heap.size, 3, none⟩ (.string ⟨#[]⟩)).setCell ⟨w.heap.size, 4, none⟩ (.slice none 0 0)) := ⟨_, rfl⟩
  rw [← hW7]
  have HB7 : Below w.heap.size w W7 := by rw [hW7]; exact below_set (below_set (below_set (below_set (below_set HB1 (Nat.le_refl _) _) (Nat.le_refl _) _) (Nat.le_refl _) _) (Nat.le_refl _) _) (Nat.le_refl _) _
  have xr7 : Box W7 w.heap.size #[.int .i64 0, .bool false, .int .i64 0, .string ⟨#[]⟩, .slice none 0 0] := by rw [hW7]; exact ((((xr1.put 0 _).put 1 _).put 2 _).put 3 _).put 4 _
  refine bodyPost_ret (results_c3 _ rfl rfl (box_load xr7 rfl rfl rfl rfl rfl)) rfl ?_
  exact ⟨rfl, HB7⟩
set_option maxRecDepth 100000 in
set_option maxHeartbeats 3200000 in
theorem rdec_3_short (A : Option Addr) (bs : List Int) (c : Nat) (i : Nat) (w : World) (hr : ReadsB w A bs) (hbt : ∀ x ∈ bs, 0 ≤ x ∧ x < 256) (hi : i < bs.length) (hil : i ≤ 9223372036854770000) (hk : bs.getD i 0 = 3) (hf : ¬ i + 1 + 4 ≤ bs.length) (hT : Lib.Utf8Tabs 0 1 w) :
    Calls Tryd.prog 44 #[.slice A bs.length c, .int .i64 (i : Int)] w fun e w' => e = .returned (.tuple #[.agg #[.int .i64 0, .bool false, .int .i64 0, .string ⟨#[]⟩, .slice none 0 0], .int .i64 0, .int .i64 21]) ∧ Below w.heap.size w w' := by
  have htk : ∀ (q n : Nat) W, Below w.heap.size w W → n ≤ 8 → q ≤ 9223372036854775000 → Calls Tryd.prog 71 #[.slice A bs.length c, .int .i64 (q : Int), .int .i64 (n : Int)] W fun e w' => e = .returned (.tuple #[.int .u64 (takeV bs q n), .bool (takeB bs q n)]) ∧ Below W.heap.size W w' := fun q n W hW hn hq => rtake_any A bs c q n W (hr.below hW) hbt hn hq
  obtain ⟨ad, rfl, hcell⟩ := hr.2 (by omega)
  have hci : ∀ W, Below w.heap.size w W → W.cell? (ad.add i) = some (.int .u8 3) := fun W hW => by
    obtain ⟨ad', e, h⟩ := (hr.below hW).2 (by omega)
    cases e
    rw [h i hi, hk]
  have hmx := hr.1
  have hV0 : takeV bs (i + 1) 4 = 0 := if_neg hf
  have hB : takeB bs (i + 1) 4 = false := decide_eq_false hf
  obtain ⟨x, hx⟩ : ∃ x : Int, x = 0 := ⟨_, rfl⟩
  have hV : takeV bs (i + 1) 4 = x := hV0.trans hx.symm
  have hx0 : 0 ≤ x ∧ x ≤ 4096 := by omega
  have hxw : IntKind.i64.wrap x = x := by rw [IntKind.wrap_i64]; omega
  obtain ⟨R, hRR⟩ : ∃ R, rightB 3 false 0 ⟨#[]⟩ [] = R := ⟨_, rfl⟩
  clear hV0 hx hf
  obtain ⟨m, hm⟩ : ∃ m, m = bs.length := ⟨_, rfl⟩
  rw [← hm] at hi hmx htk ⊢
  have hii : (i : Int) < (m : Int) := by omega
  have hi0 : (0 : Int) ≤ (i : Int) := by omega
  have hi9 : (i : Int) ≤ 9223372036854770000 := by omega
  have hmi : (m : Int) ≤ 9223372036854775807 := by omega
  have HM := Aside0.mk hm
  have HR := Aside0.mk hr
  have HCI := Aside0.mk hci
  have HT := Aside0.mk hT
  have HRR := Aside0.mk hRR
  clear hm hr hk hcell hci hT hbt hRR
  try clear hright
  go_enter Tryd.func44, Tryd.ntmps44
  go_upto_region 1 with (fail)
  obtain ⟨W1, hW1⟩ : ∃ W1, W1 = w.alloc (.cells #[.int .i64 0, .bool false, .int .i64 0, .string ⟨#[]⟩, .slice none 0 0] 25) := ⟨_, rfl⟩
  rw [← hW1]
  have HB1 : Below w.heap.size w W1 := by rw [hW1]; exact below_more (Below.refl _ _) _
  have xr1 : Box W1 w.heap.size #[.int .i64 0, .bool false, .int .i64 0, .string ⟨#[]⟩, .slice none 0 0] := by rw [hW1]; exact Box.new w _
  have hcx := HCI.out W1 HB1
  clear hW1
  have hnm : ¬ (m : Int) ≤ (i : Int) := by omega
  have hnm2 : ¬ m ≤ i := by omega
  go_upto_region 3 with (fail)
  go_upto_region 4 with (fail)
  obtain ⟨W2, hW2⟩ : ∃ W2, W2 = W1.alloc (.cells #[.int .i64 3, .bool false, .int .i64 0, .string ⟨#[]⟩, .slice none 0 0] 25) := ⟨_, rfl⟩
  obtain ⟨b1, hb1⟩ : ∃ b1, b1 = W1.heap.size := ⟨_, rfl⟩
  rw [← hW2, ← hb1]
  have hb1w : w.heap.size < b1 := by rw [hb1]; exact xr1.lt
  have hne1 : w.heap.size ≠ b1 := by omega
  have hne2 : b1 ≠ w.heap.size := by omega
  have HBW2 : Below w.heap.size w W2 := by rw [hW2]; exact below_more HB1 _
  have xrW2 : Box W2 w.heap.size #[.int .i64 0, .bool false, .int .i64 0, .string ⟨#[]⟩, .slice none 0 0] := by rw [hW2]; exact xr1.more _
  have xvW2 : Box W2 b1 #[.int .i64 3, .bool false, .int .i64 0, .string ⟨#[]⟩, .slice none 0 0] := by rw [hW2, hb1]; exact Box.new W1 _
  have hbrW2 := xrW2.cells
  have hbvW2 := xvW2.cells
  have hfrW2 := xrW2.free
  have hfvW2 := xvW2.free
  clear hW2 hb1 xr1 HB1 hcx
  have ht := fun W (h : Below w.heap.size w W) => htk (i + 1) 4 W h (by decide) (by omega)
  rw [hV, hB] at ht
  have hi1 : ((i + 1 : Nat) : Int) = (i : Int) + 1 := by omega
  have HI1 := Aside0.mk hi1
  rw [hi1] at ht
  clear hi1 htk
  go_wp2_with (go_at_call 71; go_loud (refine (ht _ HBW2).mono ?_))
  first
    | (intro e W3 he hb3; subst he)
    | rintro e W3 ⟨rfl, hb3⟩
  have HBW3 := below_then HBW2 hb3
  have xrW3 := xrW2.kept hb3
  have xvW3 := xvW2.kept hb3
  have hbrW3 := xrW3.cells
  have hbvW3 := xvW3.cells
  have hfrW3 := xrW3.free
  have hfvW3 := xvW3.free
  clear hb3 ht
  clear xrW2 xvW2 hbrW2 hbvW2 hfrW2 hfvW2 HBW2
  have hRt := rright_any 3 0 false ⟨#[]⟩ none [] 0 W3 ⟨by decide, fun h => absurd h (by decide)⟩ (by decide) (Utf8Tabs_below HT.out HBW3)
  rw [HRR.out] at hRt
  go_wp2_with (go_at_call 38; refine hRt.mono ?_)
  first
    | (intro e W6 he hb6; subst he)
    | rintro e W6 ⟨rfl, hb6⟩
  have HBW6 := below_then HBW3 hb6
  have xrW6 := xrW3.kept hb6
  have xvW6 := xvW3.kept hb6
  have hbrW6 := xrW6.cells
  have hbvW6 := xvW6.cells
  have hfrW6 := xrW6.free
  have hfvW6 := xvW6.free
  clear hb6 hRt
  clear xrW3 xvW3 hbrW3 hbvW3 hfrW3 hfvW3 HBW3
  go_wp2
  obtain ⟨W7, hW7⟩ : ∃ W7, W7 = (((((W6.setCell ⟨w.heap.size, 0, none⟩ (.int .i64 0)).setCell ⟨w.heap.size, 1, none⟩ (.bool false)).setCell ⟨w.heap.size, 2, none⟩ (.int .i64 0)).setCell ⟨w.heap.size, 3, none⟩ (.string ⟨#[]⟩)).setCell ⟨w.heap.size, 4, none⟩ (.slice none 0 0)) := ⟨_, rfl⟩
  rw [← hW7]
  have HB7 : Below w.heap.size w W7 := by rw [hW7]; exact below_set (below_set (below_set (below_set (below_set HBW6 (Nat.le_refl _) _) (Nat.le_refl _) _) (Nat.le_refl _) _) (Nat.le_refl _) _) (Nat.le_refl _) _
  have xr7 : Box W7 w.heap.size #[.int .i64 0, .bool false, .int .i64 0, .string ⟨#[]⟩, .slice none 0 0] := by rw [hW7]; exact ((((xrW6.put 0 _).put 1 _).put 2 _).put 3 _).put 4 _
  refine bodyPost_ret (results_c3 _ rfl rfl (box_load xr7 rfl rfl rfl rfl rfl)) rfl ?_
  exact ⟨rfl, HB7⟩
set_option maxRecDepth 100000 in
set_option maxHeartbeats 3200000 in
theorem rdec_3_over (A : Option Addr) (bs : List Int) (c : Nat) (i : Nat) (w : World) (hr : ReadsB w A bs) (hbt : ∀ x ∈ bs, 0 ≤ x ∧ x < 256) (hi : i < bs.length) (hil : i ≤ 9223372036854770000) (hk : bs.getD i 0 = 3) (hf : i + 1 + 4 ≤ bs.length) (hx1 : ¬ beI ((bs.drop (i + 1)).take 4) ≤ 4096) (hT : Lib.Utf8Tabs 0 1 w) :
    Calls Tryd.prog 44 #[.slice A bs.length c, .int .i64 (i : Int)] w fun e w' => e = .returned (.tuple #[.agg #[.int .i64 0, .bool false, .int .i64 0, .string ⟨#[]⟩, .slice none 0 0], .int .i64 0, .int .i64 21]) ∧ Below w.heap.size w w' := by
  have htk : ∀ (q n : Nat) W, Below w.heap.size w W → n ≤ 8 → q ≤ 9223372036854775000 → Calls Tryd.prog 71 #[.slice A bs.length c, .int .i64 (q : Int), .int .i64 (n : Int)] W fun e w' => e = .returned (.tuple #[.int .u64 (takeV bs q n), .bool (takeB bs q n)]) ∧ Below W.heap.size W w' := fun q n W hW hn hq => rtake_any A bs c q n W (hr.below hW) hbt hn hq
  obtain ⟨ad, rfl, hcell⟩ := hr.2 (by omega)
  have hci : ∀ W, Below w.heap.size w W → W.cell? (ad.add i) = some (.int .u8 3) := fun W hW => by
    obtain ⟨ad', e, h⟩ := (hr.below hW).2 (by omega)
    cases e
    rw [h i hi, hk]
  have hmx := hr.1
  obtain ⟨x, hxx⟩ : ∃ x, x = beI ((bs.drop (i + 1)).take 4) := ⟨_, rfl⟩
  have hV : takeV bs (i + 1) 4 = x := (if_pos hf).trans hxx.symm
  have hB : takeB bs (i + 1) 4 = true := decide_eq_true hf
  have hxb := beI_bound 4 ((bs.drop (i + 1)).take 4) (by rw [List.length_take, List.length_drop]; omega) (fun y hy => hbt y (List.mem_of_mem_drop (List.mem_of_mem_take hy)))
  rw [← hxx] at hx1 hxb
  have hx0 : 0 ≤ x ∧ x ≤ 4294967296 := ⟨hxb.1, by have := hxb.2; omega⟩
  have hxw : IntKind.i64.wrap x = x := by rw [IntKind.wrap_i64]; omega
  obtain ⟨R, hRR⟩ : ∃ R, rightB 3 false 0 ⟨#[]⟩ [] = R := ⟨_, rfl⟩
  clear hxx hf hxb
  obtain ⟨m, hm⟩ : ∃ m, m = bs.length := ⟨_, rfl⟩
  rw [← hm] at hi hmx htk ⊢
  have hii : (i : Int) < (m : Int) := by omega
  have hi0 : (0 : Int) ≤ (i : Int) := by omega
  have hi9 : (i : Int) ≤ 9223372036854770000 := by omega
  have hmi : (m : Int) ≤ 9223372036854775807 := by omega
  have HM := Aside0.mk hm
  have HR := Aside0.mk hr
  have HCI := Aside0.mk hci
  have HT := Aside0.mk hT
  have HRR := Aside0.mk hRR
  clear hm hr hk hcell hci hT hbt hRR
  try clear hright
  go_enter Tryd.func44, Tryd.ntmps44
  go_upto_region 1 with (fail)
  obtain ⟨W1, hW1⟩ : ∃ W1, W1 = w.alloc (.cells #[.int .i64 0, .bool false, .int .i64 0, .string ⟨#[]⟩, .slice none 0 0] 25) := ⟨_, rfl⟩
  rw [← hW1]
  have HB1 : Below w.heap.size w W1 := by rw [hW1]; exact below_more (Below.refl _ _) _
  have xr1 : Box W1 w.heap.size #[.int .i64 0, .bool false, .int .i64 0, .string ⟨#[]⟩, .slice none 0 0] := by rw [hW1]; exact Box.new w _
  have hcx := HCI.out W1 HB1
  clear hW1
  have hnm : ¬ (m : Int) ≤ (i : Int) := by omega
  have hnm2 : ¬ m ≤ i := by omega
  go_upto_region 3 with (fail)
  go_upto_region 4 with (fail)
  obtain ⟨W2, hW2⟩ : ∃ W2, W2 = W1.alloc (.cells #[.int .i64 3, .bool false, .int .i64 0, .string ⟨#[]⟩, .slice none 0 0] 25) := ⟨_, rfl⟩
  obtain ⟨b1, hb1⟩ : ∃ b1, b1 = W1.heap.size := ⟨_, rfl⟩
  rw [← hW2, ← hb1]
  have hb1w : w.heap.size < b1 := by rw [hb1]; exact xr1.lt
  have hne1 : w.heap.size ≠ b1 := by omega
  have hne2 : b1 ≠ w.heap.size := by omega
  have HBW2 : Below w.heap.size w W2 := by rw [hW2]; exact below_more HB1 _
  have xrW2 : Box W2 w.heap.size #[.int .i64 0, .bool false, .int .i64 0, .string ⟨#[]⟩, .slice none 0 0] := by rw [hW2]; exact xr1.more _
  have xvW2 : Box W2 b1 #[.int .i64 3, .bool false, .int .i64 0, .string ⟨#[]⟩, .slice none 0 0] := by rw [hW2, hb1]; exact Box.new W1 _
  have hbrW2 := xrW2.cells
  have hbvW2 := xvW2.cells
  have hfrW2 := xrW2.free
  have hfvW2 := xvW2.free
  clear hW2 hb1 xr1 HB1 hcx
  have ht := fun W (h : Below w.heap.size w W) => htk (i + 1) 4 W h (by decide) (by omega)
  rw [hV, hB] at ht
  have hi1 : ((i + 1 : Nat) : Int) = (i : Int) + 1 := by omega
  have HI1 := Aside0.mk hi1
  rw [hi1] at ht
  clear hi1 htk
  go_wp2_with (go_at_call 71; go_loud (refine (ht _ HBW2).mono ?_))
  first
    | (intro e W3 he hb3; subst he)
    | rintro e W3 ⟨rfl, hb3⟩
  have HBW3 := below_then HBW2 hb3
  have xrW3 := xrW2.kept hb3
  have xvW3 := xvW2.kept hb3
  have hbrW3 := xrW3.cells
  have hbvW3 := xvW3.cells
  have hfrW3 := xrW3.free
  have hfvW3 := xvW3.free
  clear hb3 ht
  clear xrW2 xvW2 hbrW2 hbvW2 hfrW2 hfvW2 HBW2
  have hRt := rright_any 3 0 false ⟨#[]⟩ none [] 0 W3 ⟨by decide, fun h => absurd h (by decide)⟩ (by decide) (Utf8Tabs_below HT.out HBW3)
  rw [HRR.out] at hRt
  go_wp2_with (go_at_call 38; refine hRt.mono ?_)
  first
    | (intro e W6 he hb6; subst he)
    | rintro e W6 ⟨rfl, hb6⟩
  have HBW6 := below_then HBW3 hb6
  have xrW6 := xrW3.kept hb6
  have xvW6 := xvW3.kept hb6
  have hbrW6 := xrW6.cells
  have hbvW6 := xvW6.cells
  have hfrW6 := xrW6.free
  have hfvW6 := xvW6.free
  clear hb6 hRt
  clear xrW3 xvW3 hbrW3 hbvW3 hfrW3 hfvW3 HBW3
  go_wp2
  obtain ⟨W7, hW7⟩ : ∃ W7, W7 = (((((W6.setCell ⟨w.heap.size, 0, none⟩ (.int .i64 0)).setCell ⟨w.heap.size, 1, none⟩ (.bool false)).setCell ⟨w.heap.size, 2, none⟩ (.int .i64 0)).setCell ⟨w.heap.size, 3, none⟩ (.string ⟨#[]⟩)).setCell ⟨w.heap.size, 4, none⟩ (.slice none 0 0)) := ⟨_, rfl⟩
  rw [← hW7]
  have HB7 : Below w.heap.size w W7 := by rw [hW7]; exact below_set (below_set (below_set (below_set (below_set HBW6 (Nat.le_refl _) _) (Nat.le_refl _) _) (Nat.le_refl _) _) (Nat.le_refl _) _) (Nat.le_refl _) _
  have xr7 : Box W7 w.heap.size #[.int .i64 0, .bool false, .int .i64 0, .string ⟨#[]⟩, .slice none 0 0] := by rw [hW7]; exact ((((xrW6.put 0 _).put 1 _).put 2 _).put 3 _).put 4 _
  refine bodyPost_ret (results_c3 _ rfl rfl (box_load xr7 rfl rfl rfl rfl rfl)) rfl ?_
  exact ⟨rfl, HB7⟩
set_option maxRecDepth 100000 in
set_option maxHeartbeats 3200000 in
theorem rdec_3_past (A : Option Addr) (bs : List Int) (c : Nat) (i : Nat) (w : World) (hr : ReadsB w A bs) (hbt : ∀ x ∈ bs, 0 ≤ x ∧ x < 256) (hi : i < bs.length) (hil : i ≤ 9223372036854770000) (hk : bs.getD i 0 = 3) (hf : i + 1 + 4 ≤ bs.length) (hx1 : beI ((bs.drop (i + 1)).take 4) ≤ 4096) (hx2 : ¬ beI ((bs.drop (i + 1)).take 4) ≤ (bs.length : Int) - ((i : Int) + 5)) (hT : Lib.Utf8Tabs 0 1 w) :
    Calls Tryd.prog 44 #[.slice A bs.length c, .int .i64 (i : Int)] w fun e w' => e = .returned (.tuple #[.agg #[.int .i64 0, .bool false, .int .i64 0, .string ⟨#[]⟩, .slice none 0 0], .int .i64 0, .int .i64 21]) ∧ Below w.heap.size w w' := by
  have htk : ∀ (q n : Nat) W, Below w.heap.size w W → n ≤ 8 → q ≤ 9223372036854775000 → Calls Tryd.prog 71 #[.slice A bs.length c, .int .i64 (q : Int), .int .i64 (n : Int)] W fun e w' => e = .returned (.tuple #[.int .u64 (takeV bs q n), .bool (takeB bs q n)]) ∧ Below W.heap.size W w' := fun q n W hW hn hq => rtake_any A bs c q n W (hr.below hW) hbt hn hq
  obtain ⟨ad, rfl, hcell⟩ := hr.2 (by omega)
  have hci : ∀ W, Below w.heap.size w W → W.cell? (ad.add i) = some (.int .u8 3) := fun W hW => by
    obtain ⟨ad', e, h⟩ := (hr.below hW).2 (by omega)
    cases e
    rw [h i hi, hk]
  have hmx := hr.1
  obtain ⟨x, hxx⟩ : ∃ x, x = beI ((bs.drop (i + 1)).take 4) := ⟨_, rfl⟩
  have hV : takeV bs (i + 1) 4 = x := (if_pos hf).trans hxx.symm
  have hB : takeB bs (i + 1) 4 = true := decide_eq_true hf
  have hxb := beI_bound 4 ((bs.drop (i + 1)).take 4) (by rw [List.length_take, List.length_drop]; omega) (fun y hy => hbt y (List.mem_of_mem_drop (List.mem_of_mem_take hy)))
  rw [← hxx] at hx1 hx2 hxb
  have hx0 : 0 ≤ x ∧ x ≤ 4294967296 := ⟨hxb.1, by have := hxb.2; omega⟩
  have hxw : IntKind.i64.wrap x = x := by rw [IntKind.wrap_i64]; omega
  obtain ⟨R, hRR⟩ : ∃ R, rightB 3 false 0 ⟨#[]⟩ [] = R := ⟨_, rfl⟩
  clear hxx hf hxb
  obtain ⟨m, hm⟩ : ∃ m, m = bs.length := ⟨_, rfl⟩
  rw [← hm] at hi hmx htk hx2 ⊢
  have hii : (i : Int) < (m : Int) := by omega
  have hi0 : (0 : Int) ≤ (i : Int) := by omega
  have hi9 : (i : Int) ≤ 9223372036854770000 := by omega
  have hmi : (m : Int) ≤ 9223372036854775807 := by omega
  have HM := Aside0.mk hm
  have HR := Aside0.mk hr
  have HCI := Aside0.mk hci
  have HT := Aside0.mk hT
  have HRR := Aside0.mk hRR
  clear hm hr hk hcell hci hT hbt hRR
  try clear hright
  go_enter Tryd.func44, Tryd.ntmps44
  go_upto_region 1 with (fail)
  obtain ⟨W1, hW1⟩ : ∃ W1, W1 = w.alloc (.cells #[.int .i64 0, .bool false, .int .i64 0, .string ⟨#[]⟩, .slice none 0 0] 25) := ⟨_, rfl⟩
  rw [← hW1]
  have HB1 : Below w.heap.size w W1 := by rw [hW1]; exact below_more (Below.refl _ _) _
  have xr1 : Box W1 w.heap.size #[.int .i64 0, .bool false, .int .i64 0, .string ⟨#[]⟩, .slice none 0 0] := by rw [hW1]; exact Box.new w _
  have hcx := HCI.out W1 HB1
  clear hW1
  have hnm : ¬ (m : Int) ≤ (i : Int) := by omega
  have hnm2 : ¬ m ≤ i := by omega
  go_upto_region 3 with (fail)
  go_upto_region 4 with (fail)
  obtain ⟨W2, hW2⟩ : ∃ W2, W2 = W1.alloc (.cells #[.int .i64 3, .bool false, .int .i64 0, .string ⟨#[]⟩, .slice none 0 0] 25) := ⟨_, rfl⟩
  obtain ⟨b1, hb1⟩ : ∃ b1, b1 = W1.heap.size := ⟨_, rfl⟩
  rw [← hW2, ← hb1]
  have hb1w : w.heap.size < b1 := by rw [hb1]; exact xr1.lt
  have hne1 : w.heap.size ≠ b1 := by omega
  have hne2 : b1 ≠ w.heap.size := by omega
  have HBW2 : Below w.heap.size w W2 := by rw [hW2]; exact below_more HB1 _
  have xrW2 : Box W2 w.heap.size #[.int .i64 0, .bool false, .int .i64 0, .string ⟨#[]⟩, .slice none 0 0] := by rw [hW2]; exact xr1.more _
  have xvW2 : Box W2 b1 #[.int .i64 3, .bool false, .int .i64 0, .string ⟨#[]⟩, .slice none 0 0] := by rw [hW2, hb1]; exact Box.new W1 _
  have hbrW2 := xrW2.cells
  have hbvW2 := xvW2.cells
  have hfrW2 := xrW2.free
  have hfvW2 := xvW2.free
  clear hW2 hb1 xr1 HB1 hcx
  have ht := fun W (h : Below w.heap.size w W) => htk (i + 1) 4 W h (by decide) (by omega)
  rw [hV, hB] at ht
  have hi1 : ((i + 1 : Nat) : Int) = (i : Int) + 1 := by omega
  have HI1 := Aside0.mk hi1
  rw [hi1] at ht
  clear hi1 htk
  go_wp2_with (go_at_call 71; go_loud (refine (ht _ HBW2).mono ?_))
  first
    | (intro e W3 he hb3; subst he)
    | rintro e W3 ⟨rfl, hb3⟩
  have HBW3 := below_then HBW2 hb3
  have xrW3 := xrW2.kept hb3
  have xvW3 := xvW2.kept hb3
  have hbrW3 := xrW3.cells
  have hbvW3 := xvW3.cells
  have hfrW3 := xrW3.free
  have hfvW3 := xvW3.free
  clear hb3 ht
  clear xrW2 xvW2 hbrW2 hbvW2 hfrW2 hfvW2 HBW2
  have hRt := rright_any 3 0 false ⟨#[]⟩ none [] 0 W3 ⟨by decide, fun h => absurd h (by decide)⟩ (by decide) (Utf8Tabs_below HT.out HBW3)
  rw [HRR.out] at hRt
  go_wp2_with (go_at_call 38; refine hRt.mono ?_)
  first
    | (intro e W6 he hb6; subst he)
    | rintro e W6 ⟨rfl, hb6⟩
  have HBW6 := below_then HBW3 hb6
  have xrW6 := xrW3.kept hb6
  have xvW6 := xvW3.kept hb6
  have hbrW6 := xrW6.cells
  have hbvW6 := xvW6.cells
  have hfrW6 := xrW6.free
  have hfvW6 := xvW6.free
  clear hb6 hRt
  clear xrW3 xvW3 hbrW3 hbvW3 hfrW3 hfvW3 HBW3
  go_wp2
  obtain ⟨W7, hW7⟩ : ∃ W7, W7 = (((((W6.setCell ⟨w.heap.size, 0, none⟩ (.int .i64 0)).setCell ⟨w.heap.size, 1, none⟩ (.bool false)).setCell ⟨w.heap.size, 2, none⟩ (.int .i64 0)).setCell ⟨w.heap.size, 3, none⟩ (.string ⟨#[]⟩)).setCell ⟨w.heap.size, 4, none⟩ (.slice none 0 0)) := ⟨_, rfl⟩
  rw [← hW7]
  have HB7 : Below w.heap.size w W7 := by rw [hW7]; exact below_set (below_set (below_set (below_set (below_set HBW6 (Nat.le_refl _) _) (Nat.le_refl _) _) (Nat.le_refl _) _) (Nat.le_refl _) _) (Nat.le_refl _) _
  have xr7 : Box W7 w.heap.size #[.int .i64 0, .bool false, .int .i64 0, .string ⟨#[]⟩, .slice none 0 0] := by rw [hW7]; exact ((((xrW6.put 0 _).put 1 _).put 2 _).put 3 _).put 4 _
  refine bodyPost_ret (results_c3 _ rfl rfl (box_load xr7 rfl rfl rfl rfl rfl)) rfl ?_
  exact ⟨rfl, HB7⟩
theorem slice_both (W : World) (A : Option Addr) (m c i j : Nat) (hi : i ≤ j) (hm : j ≤ m) (hc : m ≤ c) :
    (Instr.slice 30 (.slice A m c) (some (.int .i64 (i : Int))) (some (.int .i64 (j : Int))) none).run Tryd.prog W = .ok (.slice (cutA A c i) (j - i) (c - i)) W := by
  unfold cutA
  go_simp
  first | done | (intros; omega)
set_option maxRecDepth 100000 in
set_option maxHeartbeats 3200000 in
theorem rdec_3_ok (A : Option Addr) (bs : List Int) (c : Nat) (i : Nat) (w : World) (hr : ReadsB w A bs) (hbt : ∀ x ∈ bs, 0 ≤ x ∧ x < 256) (hi : i < bs.length) (hil : i ≤ 9223372036854770000) (hk : bs.getD i 0 = 3) (hf : i + 1 + 4 ≤ bs.length) (hx1 : beI ((bs.drop (i + 1)).take 4) ≤ 4096) (hx2 : beI ((bs.drop (i + 1)).take 4) ≤ (bs.length : Int) - ((i : Int) + 5)) (hc : bs.length ≤ c) (hright : rightB 3 false 0 (strOfNums ((bs.drop (i + 5)).take (beI ((bs.drop (i + 1)).take 4)).toNat)) [] = true) (hT : Lib.Utf8Tabs 0 1 w) :
    Calls Tryd.prog 44 #[.slice A bs.length c, .int .i64 (i : Int)] w fun e w' => e = .returned (.tuple #[.agg #[.int .i64 3, .bool false, .int .i64 0, .string (strOfNums ((bs.drop (i + 5)).take (beI ((bs.drop (i + 1)).take 4)).toNat)), .slice none 0 0], .int .i64 ((i : Int) + 5 + beI ((bs.drop (i + 1)).take 4)), .int .i64 0]) ∧ Below w.heap.size w w' := by
  have htk : ∀ (q n : Nat) W, Below w.heap.size w W → n ≤ 8 → q ≤ 9223372036854775000 → Calls Tryd.prog 71 #[.slice A bs.length c, .int .i64 (q : Int), .int .i64 (n : Int)] W fun e w' => e = .returned (.tuple #[.int .u64 (takeV bs q n), .bool (takeB bs q n)]) ∧ Below W.heap.size W w' := fun q n W hW hn hq => rtake_any A bs c q n W (hr.below hW) hbt hn hq
  obtain ⟨ad, rfl, hcell⟩ := hr.2 (by omega)
  have hci : ∀ W, Below w.heap.size w W → W.cell? (ad.add i) = some (.int .u8 3) := fun W hW => by
    obtain ⟨ad', e, h⟩ := (hr.below hW).2 (by omega)
    cases e
    rw [h i hi, hk]
  have hmx := hr.1
  obtain ⟨x, hxx⟩ : ∃ x, x = beI ((bs.drop (i + 1)).take 4) := ⟨_, rfl⟩
  have hV : takeV bs (i + 1) 4 = x := (if_pos hf).trans hxx.symm
  have hB : takeB bs (i + 1) 4 = true := decide_eq_true hf
  have hxb := beI_bound 4 ((bs.drop (i + 1)).take 4) (by rw [List.length_take, List.length_drop]; omega) (fun y hy => hbt y (List.mem_of_mem_drop (List.mem_of_mem_take hy)))
  rw [← hxx] at hx1 hx2 hxb hright ⊢
  have hx0 : 0 ≤ x ∧ x ≤ 4096 := ⟨hxb.1, hx1⟩
  obtain ⟨q, rfl⟩ : ∃ q : Nat, x = (q : Int) := ⟨x.toNat, by omega⟩
  have hxw : IntKind.i64.wrap (q : Int) = (q : Int) := by rw [IntKind.wrap_i64]; omega
  have hq5 : i + 5 + q ≤ bs.length := by omega
  have hsl : ∀ W, (Instr.slice 30 (.slice (some ad) bs.length c) (some (.int .i64 ((i : Int) + 1 + 4))) (some (.int .i64 ((i : Int) + 1 + 4 + (q : Int)))) none).run Tryd.prog W = .ok (.slice (cutA (some ad) c (i + 5)) q (c - (i + 5))) W := fun W => by
    have h := slice_both W (some ad) bs.length c (i + 5) (i + 5 + q) (by omega) hq5 hc
    rw [show i + 5 + q - (i + 5) = q by omega, show ((i + 5 : Nat) : Int) = (i : Int) + 1 + 4 by omega, show ((i + 5 + q : Nat) : Int) = (i : Int) + 1 + 4 + (q : Int) by omega] at h
    exact h
  have hrd : ∀ W, Below w.heap.size w W → ReadsB W (cutA (some ad) c (i + 5)) ((bs.drop (i + 5)).take q) := fun W hW => ((hr.below hW).drop c (i + 5) hc).take q
  have hlq : ((bs.drop (i + 5)).take q).length = q := by rw [List.length_take, List.length_drop]; omega
  generalize cutA (some ad) c (i + 5) = Q at hsl hrd
  have hcv : ∀ W, Below w.heap.size w W → ∃ S, (convert 30 9 (.slice Q q (c - (i + 5)))).run Tryd.prog W = .ok (.string S) W ∧ S = strOfNums ((bs.drop (i + 5)).take q) := fun W hW => by
    obtain ⟨S, h, e⟩ := conv_reads (c := c - (i + 5)) (hrd W hW)
    rw [hlq] at h
    exact ⟨S, h, e⟩
  have hSZ : (strOfNums ((bs.drop (i + 5)).take q)).size ≤ 9223372036854775807 := by rw [strOfNums_size, hlq]; omega
  have hRR := hright
  rw [Int.toNat_natCast] at hRR ⊢
  generalize strOfNums ((bs.drop (i + 5)).take q) = S at hcv hRR hSZ ⊢
  have HSZ := Aside0.mk hSZ
  have HCV := Aside0.mk hcv
  generalize c - (i + 5) = c5 at hsl HCV
  clear hxx hf hxb hrd hSZ hcv hlq hright
  obtain ⟨m, hm⟩ : ∃ m, m = bs.length := ⟨_, rfl⟩
  rw [← hm] at hi hmx htk hx2 hq5 hsl hc ⊢
  have hii : (i : Int) < (m : Int) := by omega
  have hi0 : (0 : Int) ≤ (i : Int) := by omega
  have hi9 : (i : Int) ≤ 9223372036854770000 := by omega
  have hmi : (m : Int) ≤ 9223372036854775807 := by omega
  have HM := Aside0.mk hm
  have HR := Aside0.mk hr
  have HCI := Aside0.mk hci
  have HT := Aside0.mk hT
  have HRR := Aside0.mk hRR
  clear hm hr hk hcell hci hT hbt hRR
  try clear hright
  go_enter Tryd.func44, Tryd.ntmps44
  go_upto_region 1 with (fail)
  obtain ⟨W1, hW1⟩ : ∃ W1, W1 = w.alloc (.cells #[.int .i64 0, .bool false, .int .i64 0, .string ⟨#[]⟩, .slice none 0 0] 25) := ⟨_, rfl⟩
  rw [← hW1]
  have HB1 : Below w.heap.size w W1 := by rw [hW1]; exact below_more (Below.refl _ _) _
  have xr1 : Box W1 w.heap.size #[.int .i64 0, .bool false, .int .i64 0, .string ⟨#[]⟩, .slice none 0 0] := by rw [hW1]; exact Box.new w _
  have hcx := HCI.out W1 HB1
  clear hW1
  have hnm : ¬ (m : Int) ≤ (i : Int) := by omega
  have hnm2 : ¬ m ≤ i := by omega
  go_upto_region 3 with (fail)
  go_upto_region 4 with (fail)
  obtain ⟨W2, hW2⟩ : ∃ W2, W2 = W1.alloc (.cells #[.int .i64 3, .bool false, .int .i64 0, .string ⟨#[]⟩, .slice none 0 0] 25) := ⟨_, rfl⟩
  obtain ⟨b1, hb1⟩ : ∃ b1, b1 = W1.heap.size := ⟨_, rfl⟩
  rw [← hW2, ← hb1]
  have hb1w : w.heap.size < b1 := by rw [hb1]; exact xr1.lt
  have hne1 : w.heap.size ≠ b1 := by omega
  have hne2 : b1 ≠ w.heap.size := by omega
  have HBW2 : Below w.heap.size w W2 := by rw [hW2]; exact below_more HB1 _
  have xrW2 : Box W2 w.heap.size #[.int .i64 0, .bool false, .int .i64 0, .string ⟨#[]⟩, .slice none 0 0] := by rw [hW2]; exact xr1.more _
  have xvW2 : Box W2 b1 #[.int .i64 3, .bool false, .int .i64 0, .string ⟨#[]⟩, .slice none 0 0] := by rw [hW2, hb1]; exact Box.new W1 _
  have hbrW2 := xrW2.cells
  have hbvW2 := xvW2.cells
  have hfrW2 := xrW2.free
  have hfvW2 := xvW2.free
  clear hW2 hb1 xr1 HB1 hcx
  have ht := fun W (h : Below w.heap.size w W) => htk (i + 1) 4 W h (by decide) (by omega)
  rw [hV, hB] at ht
  have hi1 : ((i + 1 : Nat) : Int) = (i : Int) + 1 := by omega
  have HI1 := Aside0.mk hi1
  rw [hi1] at ht
  clear hi1 htk
  go_wp2_with (go_at_call 71; go_loud (refine (ht _ HBW2).mono ?_))
  first
    | (intro e W3 he hb3; subst he)
    | rintro e W3 ⟨rfl, hb3⟩
  have HBW3 := below_then HBW2 hb3
  have xrW3 := xrW2.kept hb3
  have xvW3 := xvW2.kept hb3
  have hbrW3 := xrW3.cells
  have hbvW3 := xvW3.cells
  have hfrW3 := xrW3.free
  have hfvW3 := xvW3.free
  clear hb3 ht
  clear xrW2 xvW2 hbrW2 hbvW2 hfrW2 hfvW2 HBW2
  obtain ⟨S2, hcx, hSe⟩ := HCV.out W3 HBW3
  rw [hSe] at hcx
  clear hSe S2
  clear HCV
  go_upto_region 25 with (fail)
  obtain ⟨W4, hW4⟩ : ∃ W, W = W3.setCell ⟨b1, 3, none⟩ (.string S) := ⟨_, rfl⟩
  rw [← hW4]
  have HBW4 : Below w.heap.size w W4 := by rw [hW4]; exact below_set HBW3 (Nat.le_of_lt hb1w) _
  have xrW4 : Box W4 w.heap.size #[.int .i64 0, .bool false, .int .i64 0, .string ⟨#[]⟩, .slice none 0 0] := by rw [hW4]; exact xrW3.off _ _ (by simp; omega)
  have xvW4 : Box W4 b1 #[.int .i64 3, .bool false, .int .i64 0, .string S, .slice none 0 0] := by rw [hW4]; exact xvW3.put 3 _
  have hbrW4 := xrW4.cells
  have hbvW4 := xvW4.cells
  have hfrW4 := xrW4.free
  have hfvW4 := xvW4.free
  clear hW4
  clear xrW3 xvW3 hbrW3 hbvW3 hfrW3 hfvW3 HBW3
  have hRt := rright_any 3 0 false S none [] 0 W4 ⟨by decide, fun h => absurd h (by decide)⟩ (HSZ.out) (Utf8Tabs_below HT.out HBW4)
  rw [HRR.out] at hRt
  go_wp2_with (go_at_call 38; refine hRt.mono ?_)
  first
    | (intro e W6 he hb6; subst he)
    | rintro e W6 ⟨rfl, hb6⟩
  have HBW6 := below_then HBW4 hb6
  have xrW6 := xrW4.kept hb6
  have xvW6 := xvW4.kept hb6
  have hbrW6 := xrW6.cells
  have hbvW6 := xvW6.cells
  have hfrW6 := xrW6.free
  have hfvW6 := xvW6.free
  clear hb6 hRt
  clear xrW4 xvW4 hbrW4 hbvW4 hfrW4 hfvW4 HBW4
  go_wp2
  obtain ⟨W7, hW7⟩ : ∃ W7, W7 = (((((W6.setCell ⟨w.heap.size, 0, none⟩ (.int .i64 3)).setCell ⟨w.heap.size, 1, none⟩ (.bool false)).setCell ⟨w.heap.size, 2, none⟩ (.int .i64 0)).setCell ⟨w.heap.size, 3, none⟩ (.string S)).setCell ⟨w.heap.size, 4, none⟩ (.slice none 0 0)) := ⟨_, rfl⟩
  rw [← hW7]
  have HB7 : Below w.heap.size w W7 := by rw [hW7]; exact below_set (below_set (below_set (below_set (below_set HBW6 (Nat.le_refl _) _) (Nat.le_refl _) _) (Nat.le_refl _) _) (Nat.le_refl _) _) (Nat.le_refl _) _
  have xr7 : Box W7 w.heap.size #[.int .i64 3, .bool false, .int .i64 0, .string S, .slice none 0 0] := by rw [hW7]; exact ((((xrW6.put 0 _).put 1 _).put 2 _).put 3 _).put 4 _
  refine bodyPost_ret (results_c3 _ rfl rfl (box_load xr7 rfl rfl rfl rfl rfl)) rfl ?_
  exact ⟨rfl, HB7⟩
set_option maxRecDepth 100000 in
set_option maxHeartbeats 3200000 in
theorem rdec_3_not (A : Option Addr) (bs : List Int) (c : Nat) (i : Nat) (w : World) (hr : ReadsB w A bs) (hbt : ∀ x ∈ bs, 0 ≤ x ∧ x < 256) (hi : i < bs.length) (hil : i ≤ 9223372036854770000) (hk : bs.getD i 0 = 3) (hf : i + 1 + 4 ≤ bs.length) (hx1 : beI ((bs.drop (i + 1)).take 4) ≤ 4096) (hx2 : beI ((bs.drop (i + 1)).take 4) ≤ (bs.length : Int) - ((i : Int) + 5)) (hc : bs.length ≤ c) (hright : rightB 3 false 0 (strOfNums ((bs.drop (i + 5)).take (beI ((bs.drop (i + 1)).take 4)).toNat)) [] = false) (hT : Lib.Utf8Tabs 0 1 w) :
    Calls Tryd.prog 44 #[.slice A bs.length c, .int .i64 (i : Int)] w fun e w' => e = .returned (.tuple #[.agg #[.int .i64 0, .bool false, .int .i64 0, .string ⟨#[]⟩, .slice none 0 0], .int .i64 0, .int .i64 21]) ∧ Below w.heap.size w w' := by
  have htk : ∀ (q n : Nat) W, Below w.heap.size w W → n ≤ 8 → q ≤ 9223372036854775000 → Calls Tryd.prog 71 #[.slice A bs.length c, .int .i64 (q : Int), .int .i64 (n : Int)] W fun e w' => e = .returned (.tuple #[.int .u64 (takeV bs q n), .bool (takeB bs q n)]) ∧ Below W.heap.size W w' := fun q n W hW hn hq => rtake_any A bs c q n W (hr.below hW) hbt hn hq
  obtain ⟨ad, rfl, hcell⟩ := hr.2 (by omega)
  have hci : ∀ W, Below w.heap.size w W → W.cell? (ad.add i) = some (.int .u8 3) := fun W hW => by
    obtain ⟨ad', e, h⟩ := (hr.below hW).2 (by omega)
    cases e
    rw [h i hi, hk]
  have hmx := hr.1
  obtain ⟨x, hxx⟩ : ∃ x, x = beI ((bs.drop (i + 1)).take 4) := ⟨_, rfl⟩
  have hV : takeV bs (i + 1) 4 = x := (if_pos hf).trans hxx.symm
  have hB : takeB bs (i + 1) 4 = true := decide_eq_true hf
  have hxb := beI_bound 4 ((bs.drop (i + 1)).take 4) (by rw [List.length_take, List.length_drop]; omega) (fun y hy => hbt y (List.mem_of_mem_drop (List.mem_of_mem_take hy)))
  rw [← hxx] at hx1 hx2 hxb hright
  have hx0 : 0 ≤ x ∧ x ≤ 4096 := ⟨hxb.1, hx1⟩
  obtain ⟨q, rfl⟩ : ∃ q : Nat, x = (q : Int) := ⟨x.toNat, by omega⟩
  have hxw : IntKind.i64.wrap (q : Int) = (q : Int) := by rw [IntKind.wrap_i64]; omega
  have hq5 : i + 5 + q ≤ bs.length := by omega
  have hsl : ∀ W, (Instr.slice 30 (.slice (some ad) bs.length c) (some (.int .i64 ((i : Int) + 1 + 4))) (some (.int .i64 ((i : Int) + 1 + 4 + (q : Int)))) none).run Tryd.prog W = .ok (.slice (cutA (some ad) c (i + 5)) q (c - (i + 5))) W := fun W => by
    have h := slice_both W (some ad) bs.length c (i + 5) (i + 5 + q) (by omega) hq5 hc
    rw [show i + 5 + q - (i + 5) = q by omega, show ((i + 5 : Nat) : Int) = (i : Int) + 1 + 4 by omega, show ((i + 5 + q : Nat) : Int) = (i : Int) + 1 + 4 + (q : Int) by omega] at h
    exact h
  have hrd : ∀ W, Below w.heap.size w W → ReadsB W (cutA (some ad) c (i + 5)) ((bs.drop (i + 5)).take q) := fun W hW => ((hr.below hW).drop c (i + 5) hc).take q
  have hlq : ((bs.drop (i + 5)).take q).length = q := by rw [List.length_take, List.length_drop]; omega
  generalize cutA (some ad) c (i + 5) = Q at hsl hrd
  have hcv : ∀ W, Below w.heap.size w W → ∃ S, (convert 30 9 (.slice Q q (c - (i + 5)))).run Tryd.prog W = .ok (.string S) W ∧ S = strOfNums ((bs.drop (i + 5)).take q) := fun W hW => by
    obtain ⟨S, h, e⟩ := conv_reads (c := c - (i + 5)) (hrd W hW)
    rw [hlq] at h
    exact ⟨S, h, e⟩
  have hSZ : (strOfNums ((bs.drop (i + 5)).take q)).size ≤ 9223372036854775807 := by rw [strOfNums_size, hlq]; omega
  have hRR := hright
  rw [Int.toNat_natCast] at hRR
  generalize strOfNums ((bs.drop (i + 5)).take q) = S at hcv hRR hSZ
  have HSZ := Aside0.mk hSZ
  have HCV := Aside0.mk hcv
  generalize c - (i + 5) = c5 at hsl HCV
  clear hxx hf hxb hrd hSZ hcv hlq hright
  obtain ⟨m, hm⟩ : ∃ m, m = bs.length := ⟨_, rfl⟩
  rw [← hm] at hi hmx htk hx2 hq5 hsl hc ⊢
  have hii : (i : Int) < (m : Int) := by omega
  have hi0 : (0 : Int) ≤ (i : Int) := by omega
  have hi9 : (i : Int) ≤ 9223372036854770000 := by omega
  have hmi : (m : Int) ≤ 9223372036854775807 := by omega
  have HM := Aside0.mk hm
  have HR := Aside0.mk hr
  have HCI := Aside0.mk hci
  have HT := Aside0.mk hT
  have HRR := Aside0.mk hRR
  clear hm hr hk hcell hci hT hbt hRR
  try clear hright
  go_enter Tryd.func44, Tryd.ntmps44
  go_upto_region 1 with (fail)
  obtain ⟨W1, hW1⟩ : ∃ W1, W1 = w.alloc (.cells #[.int .i64 0, .bool false, .int .i64 0, .string ⟨#[]⟩, .slice none 0 0] 25) := ⟨_, rfl⟩
  rw [← hW1]
  have HB1 : Below w.heap.size w W1 := by rw [hW1]; exact below_more (Below.refl _ _) _
  have xr1 : Box W1 w.heap.size #[.int .i64 0, .bool false, .int .i64 0, .string ⟨#[]⟩, .slice none 0 0] := by rw [hW1]; exact Box.new w _
  have hcx := HCI.out W1 HB1
  clear hW1
  have hnm : ¬ (m : Int) ≤ (i : Int) := by omega
  have hnm2 : ¬ m ≤ i := by omega
  go_upto_region 3 with (fail)
  go_upto_region 4 with (fail)
  obtain ⟨W2, hW2⟩ : ∃ W2, W2 = W1.alloc (.cells #[.int .i64 3, .bool false, .int .i64 0, .string ⟨#[]⟩, .slice none 0 0] 25) := ⟨_, rfl⟩
  obtain ⟨b1, hb1⟩ : ∃ b1, b1 = W1.heap.size := ⟨_, rfl⟩
  rw [← hW2, ← hb1]
  have hb1w : w.heap.size < b1 := by rw [hb1]; exact xr1.lt
  have hne1 : w.heap.size ≠ b1 := by omega
  have hne2 : b1 ≠ w.heap.size := by omega
  have HBW2 : Below w.heap.size w W2 := by rw [hW2]; exact below_more HB1 _
  have xrW2 : Box W2 w.heap.size #[.int .i64 0, .bool false, .int .i64 0, .string ⟨#[]⟩, .slice none 0 0] := by rw [hW2]; exact xr1.more _
  have xvW2 : Box W2 b1 #[.int .i64 3, .bool false, .int .i64 0, .string ⟨#[]⟩, .slice none 0 0] := by rw [hW2, hb1]; exact Box.new W1 _
  have hbrW2 := xrW2.cells
  have hbvW2 := xvW2.cells
  have hfrW2 := xrW2.free
  have hfvW2 := xvW2.free
  clear hW2 hb1 xr1 HB1 hcx
  have ht := fun W (h : Below w.heap.size w W) => htk (i + 1) 4 W h (by decide) (by omega)
  rw [hV, hB] at ht
  have hi1 : ((i + 1 : Nat) : Int) = (i : Int) + 1 := by omega
  have HI1 := Aside0.mk hi1
  rw [hi1] at ht
  clear hi1 htk
  go_wp2_with (go_at_call 71; go_loud (refine (ht _ HBW2).mono ?_))
  first
    | (intro e W3 he hb3; subst he)
    | rintro e W3 ⟨rfl, hb3⟩
  have HBW3 := below_then HBW2 hb3
  have xrW3 := xrW2.kept hb3
  have xvW3 := xvW2.kept hb3
  have hbrW3 := xrW3.cells
  have hbvW3 := xvW3.cells
  have hfrW3 := xrW3.free
  have hfvW3 := xvW3.free
  clear hb3 ht
  clear xrW2 xvW2 hbrW2 hbvW2 hfrW2 hfvW2 HBW2
  obtain ⟨S2, hcx, hSe⟩ := HCV.out W3 HBW3
  rw [hSe] at hcx
  clear hSe S2
  clear HCV
  go_upto_region 25 with (fail)
  obtain ⟨W4, hW4⟩ : ∃ W, W = W3.setCell ⟨b1, 3, none⟩ (.string S) := ⟨_, rfl⟩
  rw [← hW4]
  have HBW4 : Below w.heap.size w W4 := by rw [hW4]; exact below_set HBW3 (Nat.le_of_lt hb1w) _
  have xrW4 : Box W4 w.heap.size #[.int .i64 0, .bool false, .int .i64 0, .string ⟨#[]⟩, .slice none 0 0] := by rw [hW4]; exact xrW3.off _ _ (by simp; omega)
  have xvW4 : Box W4 b1 #[.int .i64 3, .bool false, .int .i64 0, .string S, .slice none 0 0] := by rw [hW4]; exact xvW3.put 3 _
  have hbrW4 := xrW4.cells
  have hbvW4 := xvW4.cells
  have hfrW4 := xrW4.free
  have hfvW4 := xvW4.free
  clear hW4
  clear xrW3 xvW3 hbrW3 hbvW3 hfrW3 hfvW3 HBW3
  have hRt := rright_any 3 0 false S none [] 0 W4 ⟨by decide, fun h => absurd h (by decide)⟩ (HSZ.out) (Utf8Tabs_below HT.out HBW4)
  rw [HRR.out] at hRt
  go_wp2_with (go_at_call 38; refine hRt.mono ?_)
  first
    | (intro e W6 he hb6; subst he)
    | rintro e W6 ⟨rfl, hb6⟩
  have HBW6 := below_then HBW4 hb6
  have xrW6 := xrW4.kept hb6
  have xvW6 := xvW4.kept hb6
  have hbrW6 := xrW6.cells
  have hbvW6 := xvW6.cells
  have hfrW6 := xrW6.free
  have hfvW6 := xvW6.free
  clear hb6 hRt
  clear xrW4 xvW4 hbrW4 hbvW4 hfrW4 hfvW4 HBW4
  go_wp2
  obtain ⟨W7, hW7⟩ : ∃ W7, W7 = (((((W6.setCell ⟨w.heap.size, 0, none⟩ (.int .i64 0)).setCell ⟨w.heap.size, 1, none⟩ (.bool false)).setCell ⟨w.heap.size, 2, none⟩ (.int .i64 0)).setCell ⟨w.heap.size, 3, none⟩ (.string ⟨#[]⟩)).setCell ⟨w.heap.size, 4, none⟩ (.slice none 0 0)) := ⟨_, rfl⟩
  rw [← hW7]
  have HB7 : Below w.heap.size w W7 := by rw [hW7]; exact below_set (below_set (below_set (below_set (below_set HBW6 (Nat.le_refl _) _) (Nat.le_refl _) _) (Nat.le_refl _) _) (Nat.le_refl _) _) (Nat.le_refl _) _
  have xr7 : Box W7 w.heap.size #[.int .i64 0, .bool false, .int .i64 0, .string ⟨#[]⟩, .slice none 0 0] := by rw [hW7]; exact ((((xrW6.put 0 _).put 1 _).put 2 _).put 3 _).put 4 _
  refine bodyPost_ret (results_c3 _ rfl rfl (box_load xr7 rfl rfl rfl rfl rfl)) rfl ?_
  exact ⟨rfl, HB7⟩
theorem takeV_one (bs : List Int) (i : Nat) (h : i + 1 ≤ bs.length) : takeV bs i 1 = bs.getD i 0 := by
  rw [takeV, if_pos h, List.getD_eq_getElem?_getD, List.getElem?_eq_getElem (by omega)]
  have : (bs.drop i).take 1 = [bs[i]] := by
    rw [List.drop_eq_getElem_cons (by omega), List.take_succ_cons, List.take_zero]
  rw [this]
  simp [beI]
theorem numCells_snoc (P : List Int) (x : Int) : numCells (P ++ [x]) = numCells P ++ [.int .i64 x] := by simp [numCells]
set_option maxRecDepth 100000 in
set_option maxHeartbeats 3200000 in
theorem rdec_6_short (A : Option Addr) (bs : List Int) (c : Nat) (i : Nat) (w : World) (hr : ReadsB w A bs) (hbt : ∀ x ∈ bs, 0 ≤ x ∧ x < 256) (hi : i < bs.length) (hil : i ≤ 9223372036854770000) (hk : bs.getD i 0 = 6) (hf : ¬ i + 1 + 1 ≤ bs.length) (hT : Lib.Utf8Tabs 0 1 w) :
    Calls Tryd.prog 44 #[.slice A bs.length c, .int .i64 (i : Int)] w fun e w' => e = .returned (.tuple #[.agg #[.int .i64 0, .bool false, .int .i64 0, .string ⟨#[]⟩, .slice none 0 0], .int .i64 0, .int .i64 21]) ∧ Below w.heap.size w w' := by
  have htk : ∀ (q n : Nat) W, Below w.heap.size w W → n ≤ 8 → q ≤ 9223372036854775000 → Calls Tryd.prog 71 #[.slice A bs.length c, .int .i64 (q : Int), .int .i64 (n : Int)] W fun e w' => e = .returned (.tuple #[.int .u64 (takeV bs q n), .bool (takeB bs q n)]) ∧ Below W.heap.size W w' := fun q n W hW hn hq => rtake_any A bs c q n W (hr.below hW) hbt hn hq
  obtain ⟨ad, rfl, hcell⟩ := hr.2 (by omega)
  have hci : ∀ W, Below w.heap.size w W → W.cell? (ad.add i) = some (.int .u8 6) := fun W hW => by
    obtain ⟨ad', e, h⟩ := (hr.below hW).2 (by omega)
    cases e
    rw [h i hi, hk]
  have hmx := hr.1
  have hV0 : takeV bs (i + 1) 1 = 0 := if_neg hf
  have hB : takeB bs (i + 1) 1 = false := decide_eq_false hf
  obtain ⟨x, hx⟩ : ∃ x : Int, x = 0 := ⟨_, rfl⟩
  have hV : takeV bs (i + 1) 1 = x := hV0.trans hx.symm
  have hRR : rightB 6 false 0 ⟨#[]⟩ [] = false := by decide
  clear hV0 hx hf
  obtain ⟨m, hm⟩ : ∃ m, m = bs.length := ⟨_, rfl⟩
  rw [← hm] at hi hmx htk ⊢
  have hii : (i : Int) < (m : Int) := by omega
  have hi0 : (0 : Int) ≤ (i : Int) := by omega
  have hi9 : (i : Int) ≤ 9223372036854770000 := by omega
  have hmi : (m : Int) ≤ 9223372036854775807 := by omega
  have HM := Aside0.mk hm
  have HR := Aside0.mk hr
  have HCI := Aside0.mk hci
  have HT := Aside0.mk hT
  have HRR := Aside0.mk hRR
  clear hm hr hk hcell hci hT hbt hRR
  try clear hright
  go_enter Tryd.func44, Tryd.ntmps44
  go_upto_region 1 with (fail)
  obtain ⟨W1, hW1⟩ : ∃ W1, W1 = w.alloc (.cells #[.int .i64 0, .bool false, .int .i64 0, .string ⟨#[]⟩, .slice none 0 0] 25) := ⟨_, rfl⟩
  rw [← hW1]
  have HB1 : Below w.heap.size w W1 := by rw [hW1]; exact below_more (Below.refl _ _) _
  have xr1 : Box W1 w.heap.size #[.int .i64 0, .bool false, .int .i64 0, .string ⟨#[]⟩, .slice none 0 0] := by rw [hW1]; exact Box.new w _
  have hcx := HCI.out W1 HB1
  clear hW1
  have hnm : ¬ (m : Int) ≤ (i : Int) := by omega
  have hnm2 : ¬ m ≤ i := by omega
  go_upto_region 3 with (fail)
  go_upto_region 4 with (fail)
  obtain ⟨W2, hW2⟩ : ∃ W2, W2 = W1.alloc (.cells #[.int .i64 6, .bool false, .int .i64 0, .string ⟨#[]⟩, .slice none 0 0] 25) := ⟨_, rfl⟩
  obtain ⟨b1, hb1⟩ : ∃ b1, b1 = W1.heap.size := ⟨_, rfl⟩
  rw [← hW2, ← hb1]
  have hb1w : w.heap.size < b1 := by rw [hb1]; exact xr1.lt
  have hne1 : w.heap.size ≠ b1 := by omega
  have hne2 : b1 ≠ w.heap.size := by omega
  have HBW2 : Below w.heap.size w W2 := by rw [hW2]; exact below_more HB1 _
  have xrW2 : Box W2 w.heap.size #[.int .i64 0, .bool false, .int .i64 0, .string ⟨#[]⟩, .slice none 0 0] := by rw [hW2]; exact xr1.more _
  have xvW2 : Box W2 b1 #[.int .i64 6, .bool false, .int .i64 0, .string ⟨#[]⟩, .slice none 0 0] := by rw [hW2, hb1]; exact Box.new W1 _
  have hbrW2 := xrW2.cells
  have hbvW2 := xvW2.cells
  have hfrW2 := xrW2.free
  have hfvW2 := xvW2.free
  clear hW2 hb1 xr1 HB1 hcx
  have ht := fun W (h : Below w.heap.size w W) => htk (i + 1) 1 W h (by decide) (by omega)
  rw [hV, hB] at ht
  have hi1 : ((i + 1 : Nat) : Int) = (i : Int) + 1 := by omega
  have HI1 := Aside0.mk hi1
  rw [hi1] at ht
  clear hi1 htk
  go_wp2_with (go_at_call 71; go_loud (refine (ht _ HBW2).mono ?_))
  first
    | (intro e W3 he hb3; subst he)
    | rintro e W3 ⟨rfl, hb3⟩
  have HBW3 := below_then HBW2 hb3
  have xrW3 := xrW2.kept hb3
  have xvW3 := xvW2.kept hb3
  have hbrW3 := xrW3.cells
  have hbvW3 := xvW3.cells
  have hfrW3 := xrW3.free
  have hfvW3 := xvW3.free
  clear hb3 ht
  clear xrW2 xvW2 hbrW2 hbvW2 hfrW2 hfvW2 HBW2
  go_upto_region 30 with (fail)
  refine wp_loop_rounds 1 ?_
  rw [rounds_succ]
  have hRt := rright_any 6 0 false ⟨#[]⟩ none [] 0 W3 ⟨by decide, fun h => absurd h (by decide)⟩ (by decide) (Utf8Tabs_below HT.out HBW3)
  rw [HRR.out] at hRt
  go_wp2_with (go_at_call 38; refine hRt.mono ?_)
  first
    | (intro e W6 he hb6; subst he)
    | rintro e W6 ⟨rfl, hb6⟩
  have HBW6 := below_then HBW3 hb6
  have xrW6 := xrW3.kept hb6
  have xvW6 := xvW3.kept hb6
  have hbrW6 := xrW6.cells
  have hbvW6 := xvW6.cells
  have hfrW6 := xrW6.free
  have hfvW6 := xvW6.free
  clear hb6 hRt
  clear xrW3 xvW3 hbrW3 hbvW3 hfrW3 hfvW3 HBW3
  go_wp2
  obtain ⟨W7, hW7⟩ : ∃ W7, W7 = (((((W6.setCell ⟨w.heap.size, 0, none⟩ (.int .i64 0)).setCell ⟨w.heap.size, 1, none⟩ (.bool false)).setCell ⟨w.heap.size, 2, none⟩ (.int .i64 0)).setCell ⟨w.heap.size, 3, none⟩ (.string ⟨#[]⟩)).setCell ⟨w.heap.size, 4, none⟩ (.slice none 0 0)) := ⟨_, rfl⟩
  rw [← hW7]
  have HB7 : Below w.heap.size w W7 := by rw [hW7]; exact below_set (below_set (below_set (below_set (below_set HBW6 (Nat.le_refl _) _) (Nat.le_refl _) _) (Nat.le_refl _) _) (Nat.le_refl _) _) (Nat.le_refl _) _
  have xr7 : Box W7 w.heap.size #[.int .i64 0, .bool false, .int .i64 0, .string ⟨#[]⟩, .slice none 0 0] := by rw [hW7]; exact ((((xrW6.put 0 _).put 1 _).put 2 _).put 3 _).put 4 _
  refine bodyPost_ret (results_c3 _ rfl rfl (box_load xr7 rfl rfl rfl rfl rfl)) rfl ?_
  exact ⟨rfl, HB7⟩
set_option maxRecDepth 100000 in
set_option maxHeartbeats 3200000 in
theorem rdec_6 (A : Option Addr) (bs : List Int) (c : Nat) (i : Nat) (w : World) (hr : ReadsB w A bs) (hbt : ∀ x ∈ bs, 0 ≤ x ∧ x < 256) (hi : i < bs.length) (hil : i ≤ 9223372036854770000) (hk : bs.getD i 0 = 6) (hf : i + 1 + 1 ≤ bs.length) (hT : Lib.Utf8Tabs 0 1 w) :
    Calls Tryd.prog 44 #[.slice A bs.length c, .int .i64 (i : Int)] w fun e w' => AnsD (decO bs i) w e w' := by
  have htk : ∀ (q n : Nat) W, Below w.heap.size w W → n ≤ 8 → q ≤ 9223372036854775000 → Calls Tryd.prog 71 #[.slice A bs.length c, .int .i64 (q : Int), .int .i64 (n : Int)] W fun e w' => e = .returned (.tuple #[.int .u64 (takeV bs q n), .bool (takeB bs q n)]) ∧ Below W.heap.size W w' := fun q n W hW hn hq => rtake_any A bs c q n W (hr.below hW) hbt hn hq
  obtain ⟨ad, rfl, hcell⟩ := hr.2 (by omega)
  have hci : ∀ W, Below w.heap.size w W → W.cell? (ad.add i) = some (.int .u8 6) := fun W hW => by
    obtain ⟨ad', e, h⟩ := (hr.below hW).2 (by omega)
    cases e
    rw [h i hi, hk]
  have hmx := hr.1
  have hf9 := hf
  have hV1 : takeV bs (i + 1) 1 = bs.getD (i + 1) 0 := takeV_one bs (i + 1) hf
  have hB : takeB bs (i + 1) 1 = true := decide_eq_true hf
  have hxb := hbt (bs.getD (i + 1) 0) (by rw [List.getD_eq_getElem?_getD, List.getElem?_eq_getElem (by omega)]; exact List.getElem_mem _)
  have HANS : Aside0 (decO bs i = (if i + 2 ≤ bs.length ∧ i + 2 + 8 * (bs.getD (i + 1) 0).toNat ≤ bs.length ∧ rightB 6 false 0 ⟨#[]⟩ (numsP bs (i + 2) (bs.getD (i + 1) 0).toNat) = true then ⟨6, 0, false, ⟨#[]⟩, numsP bs (i + 2) (bs.getD (i + 1) 0).toNat, (i : Int) + 2 + 8 * (bs.getD (i + 1) 0).toNat, 0⟩ else D7.bad)) := ⟨by rw [decO, hk]; rfl⟩
  generalize decO bs i = D at HANS ⊢
  obtain ⟨q, hq⟩ : ∃ q : Nat, bs.getD (i + 1) 0 = (q : Int) := ⟨(bs.getD (i + 1) 0).toNat, by omega⟩
  rw [hq] at hV1 hxb HANS
  rw [Int.toNat_natCast] at HANS
  have hV : takeV bs (i + 1) 1 = (q : Int) := hV1
  have hqw : IntKind.i64.wrap (q : Int) = (q : Int) := by rw [IntKind.wrap_i64]; omega
  have hq0 : (0 : Int) ≤ (q : Int) := by omega
  have hq255 : (q : Int) < 256 := hxb.2
  have HRT : Aside0 (∀ W A P c, ReadsI W A P → Below w.heap.size w W → Calls Tryd.prog 38 #[.agg #[.int .i64 6, .bool false, .int .i64 0, .string ⟨#[]⟩, .slice A P.length c]] W fun e w' => e = .returned (.bool (rightB 6 false 0 ⟨#[]⟩ P)) ∧ Below W.heap.size W w') := ⟨fun W A P c hrd hB => rright_any 6 0 false ⟨#[]⟩ A P c W hrd (by decide) (Utf8Tabs_below hT hB)⟩
  have hRR : True := trivial
  clear hV1 hq hxb hf
  have HM2 : Aside0 (i + 2 ≤ bs.length) := ⟨hf9⟩
  clear hf9
  obtain ⟨m, hm⟩ : ∃ m, m = bs.length := ⟨_, rfl⟩
  rw [← hm] at hi hmx htk ⊢
  have hii : (i : Int) < (m : Int) := by omega
  have hi0 : (0 : Int) ≤ (i : Int) := by omega
  have hi9 : (i : Int) ≤ 9223372036854770000 := by omega
  have hmi : (m : Int) ≤ 9223372036854775807 := by omega
  have HM := Aside0.mk hm
  have HR := Aside0.mk hr
  have HCI := Aside0.mk hci
  have HT := Aside0.mk hT
  have HRR := Aside0.mk hRR
  clear hm hr hk hcell hci hT hbt hRR
  try clear hright
  go_enter Tryd.func44, Tryd.ntmps44
  go_upto_region 1 with (fail)
  obtain ⟨W1, hW1⟩ : ∃ W1, W1 = w.alloc (.cells #[.int .i64 0, .bool false, .int .i64 0, .string ⟨#[]⟩, .slice none 0 0] 25) := ⟨_, rfl⟩
  rw [← hW1]
  have HB1 : Below w.heap.size w W1 := by rw [hW1]; exact below_more (Below.refl _ _) _
  have xr1 : Box W1 w.heap.size #[.int .i64 0, .bool false, .int .i64 0, .string ⟨#[]⟩, .slice none 0 0] := by rw [hW1]; exact Box.new w _
  have hcx := HCI.out W1 HB1
  clear hW1
  have hnm : ¬ (m : Int) ≤ (i : Int) := by omega
  have hnm2 : ¬ m ≤ i := by omega
  go_upto_region 3 with (fail)
  go_upto_region 4 with (fail)
  obtain ⟨W2, hW2⟩ : ∃ W2, W2 = W1.alloc (.cells #[.int .i64 6, .bool false, .int .i64 0, .string ⟨#[]⟩, .slice none 0 0] 25) := ⟨_, rfl⟩
  obtain ⟨b1, hb1⟩ : ∃ b1, b1 = W1.heap.size := ⟨_, rfl⟩
  rw [← hW2, ← hb1]
  have hb1w : w.heap.size < b1 := by rw [hb1]; exact xr1.lt
  have hne1 : w.heap.size ≠ b1 := by omega
  have hne2 : b1 ≠ w.heap.size := by omega
  have HBW2 : Below w.heap.size w W2 := by rw [hW2]; exact below_more HB1 _
  have xrW2 : Box W2 w.heap.size #[.int .i64 0, .bool false, .int .i64 0, .string ⟨#[]⟩, .slice none 0 0] := by rw [hW2]; exact xr1.more _
  have xvW2 : Box W2 b1 #[.int .i64 6, .bool false, .int .i64 0, .string ⟨#[]⟩, .slice none 0 0] := by rw [hW2, hb1]; exact Box.new W1 _
  have hbrW2 := xrW2.cells
  have hbvW2 := xvW2.cells
  have hfrW2 := xrW2.free
  have hfvW2 := xvW2.free
  clear hW2 hb1 xr1 HB1 hcx
  have htk8 := fun (a : Nat) W (hW : Below w.heap.size w W) (ha : a ≤ 9223372036854775000) => htk a 8 W hW (by decide) ha
  have HTK8 := Aside0.mk htk8
  clear htk8
  have ht := fun W (h : Below w.heap.size w W) => htk (i + 1) 1 W h (by decide) (by omega)
  rw [hV, hB] at ht
  have hi1 : ((i + 1 : Nat) : Int) = (i : Int) + 1 := by omega
  have HI1 := Aside0.mk hi1
  rw [hi1] at ht
  clear hi1 htk
  go_wp2_with (go_at_call 71; go_loud (refine (ht _ HBW2).mono ?_))
  first
    | (intro e W3 he hb3; subst he)
    | rintro e W3 ⟨rfl, hb3⟩
  have HBW3 := below_then HBW2 hb3
  have xrW3 := xrW2.kept hb3
  have xvW3 := xvW2.kept hb3
  have hbrW3 := xrW3.cells
  have hbvW3 := xvW3.cells
  have hfrW3 := xrW3.free
  have hfvW3 := xvW3.free
  clear hb3 ht
  clear xrW2 xvW2 hbrW2 hbvW2 hfrW2 hfvW2 HBW2
  go_upto_region 29 with (fail)
  have hP0 : W3.ownsRow (b1 + 1) 2 1 (.slice none 0 0) 0 [] := ⟨rfl, .inl ⟨rfl, rfl⟩⟩
  have hB3 : b1 + 1 ≤ W3.heap.size := xvW3.lt
  go_upto_region 30 with (fail)
  go_loopg [1, 8, 10] 11 (fun gg s1 s8 s10 wr => ∃ (j a : Nat) (okb : Bool) (V : Value) (P : List Int), s10 = .int .i64 j ∧ s8 = .bool okb ∧ s1 = .int .i64 a ∧ a = i + 2 + 8 * j ∧ j ≤ 10 ∧ j ≤ q ∧ 10 < gg + j ∧ (okb = true → P = numsP bs (i + 2) j ∧ a ≤ bs.length) ∧ (okb = false → 0 < j ∧ ¬ a ≤ bs.length) ∧ P.length = j ∧ wr.ownsRow (b1 + 1) 2 1 V j (numCells P) ∧ Box wr w.heap.size #[.int .i64 0, .bool false, .int .i64 0, .string ⟨#[]⟩, .slice none 0 0] ∧ Box wr b1 #[.int .i64 6, .bool false, .int .i64 0, .string ⟨#[]⟩, V] ∧ Below w.heap.size w wr ∧ b1 + 1 ≤ wr.heap.size)
  case atStart => exact ⟨0, i + 2, true, .slice none 0 0, [], rfl, rfl, by first | rfl | (congr 1; omega), rfl, by omega, by omega, by omega, fun _ => ⟨rfl, HM2.out⟩, (fun h => by cases h), rfl, hP0, xrW3, xvW3, HBW3, hB3⟩
  case round =>
    obtain ⟨j, a, okb, V, P, rfl, rfl, rfl, ha, hj10, hjq, hg, hok, hno, hPl, hown, xr, xv, HB, hBs⟩ := hrel
    clear xrW3 xvW3 hbrW3 hbvW3 hfrW3 hfvW3 HBW3 hP0 hB3
    have hbr := xr.cells
    have hbv := xv.cells
    have hfr := xr.free
    have hfv := xv.free
    have hj0 : (0 : Int) ≤ (j : Int) := by omega
    have ha9 : (a : Int) ≤ 9223372036854775000 := by omega
    have ha0 : (0 : Int) ≤ (a : Int) := by omega
    have HA := Aside0.mk ha
    have HOK := Aside0.mk hok
    have HNO := Aside0.mk hno
    have HPL := Aside0.mk hPl
    have HO := Aside0.mk hown
    clear ha hok hno hPl hown
    by_cases hgo : okb = true ∧ j < q ∧ j < 10
    · obtain ⟨rfl, hjq2, hj2⟩ := hgo
      have hjqi : (j : Int) < (q : Int) := by omega
      have hj2i : (j : Int) < 10 := by omega
      have hn1 : ¬ q ≤ j := by omega
      have hn2 : ¬ (q : Int) ≤ (j : Int) := by omega
      have hn3 : ¬ 10 ≤ j := by omega
      have hn4 : ¬ (10 : Int) ≤ (j : Int) := by omega
      have ht := HTK8.out a wr HB (by omega)
      obtain ⟨x, hx⟩ : ∃ x, x = takeV bs a 8 := ⟨_, rfl⟩
      obtain ⟨tb, htb⟩ : ∃ tb, tb = takeB bs a 8 := ⟨_, rfl⟩
      rw [← hx, ← htb] at ht
      have hcw : ∀ W, (convert 43 2 (.int .u64 x)).run Tryd.prog W = .ok (.int .i64 (sgn x)) W := fun W => by
        go_simp
        first | done | rfl
      have HX := Aside0.mk hx
      have HTB := Aside0.mk htb
      have HG := Aside0.mk hg
      clear hx htb hg
      generalize hyy : sgn x = y at hcw
      have HY := Aside0.mk hyy
      clear hyy
      go_wp2_with (go_at_call 71; go_loud (refine ht.mono ?_))
      first
        | (intro e W4 he hb4; subst he)
        | rintro e W4 ⟨rfl, hb4⟩
      have HB4 := below_then HB hb4
      have xr4 := xr.kept hb4
      have xv4 := xv.kept hb4
      have ho4 := own_kept HO.out hb4
      have hs4 : b1 + 1 ≤ W4.heap.size := Nat.le_trans hBs hb4.size
      have hbr4 := xr4.cells
      have hbv4 := xv4.cells
      have hfr4 := xr4.free
      have hfv4 := xv4.free
      clear hb4 ht xr xv hbr hbv hfr hfv HB HO hBs
      go_wp2_with (at_builtin; go_loud (refine append_i64 (w0 := w) rfl (.tmp 141) (.tmp 144) rfl (b1 + 1) _ _ _ rfl ho4 y rfl (by omega) hs4 HB4 (by omega) ?_))
      intro V' W5 ho5 HB5 hsz5 hk5
      obtain ⟨P5, hP5⟩ : ∃ P5, P5 = P ++ [y] := ⟨_, rfl⟩
      have hl5 : P5.length = j + 1 := by rw [hP5, List.length_append, HPL.out]; rfl
      have HO5 : Aside0 (W5.ownsRow (b1 + 1) 2 1 V' P5.length (numCells P5)) := ⟨by rw [hl5, hP5, numCells_snoc]; exact ho5⟩
      have HP5 := Aside0.mk (And.intro hP5 hl5)
      clear hP5 hl5 ho5
      obtain ⟨A5, c5, rfl, hrA5, hca5, hAb5⟩ := own_nums HO5.out
      clear hrA5 hca5 hAb5
      have xr5 : Box W5 w.heap.size #[.int .i64 0, .bool false, .int .i64 0, .string ⟨#[]⟩, .slice none 0 0] := box_far xr4 (by omega) hk5
      have xv5 := box_far xv4 (by omega) hk5
      have hbr5 := xr5.cells
      have hbv5 := xv5.cells
      have hfr5 := xr5.free
      have hfv5 := xv5.free
      clear xr4 xv4 hbr4 hbv4 hfr4 hfv4 HB4 ho4
      go_upto_region 34 with (fail)
      obtain ⟨W6, hW6⟩ : ∃ W, W = W5.setCell ⟨b1, 4, none⟩ (.slice A5 P5.length c5) := ⟨_, rfl⟩
      rw [← hW6]
      have HB6 : Below w.heap.size w W6 := by rw [hW6]; exact below_set HB5 (Nat.le_of_lt hb1w) _
      have xr6 : Box W6 w.heap.size #[.int .i64 0, .bool false, .int .i64 0, .string ⟨#[]⟩, .slice none 0 0] := by rw [hW6]; exact xr5.off _ _ (by simp; omega)
      have xv6 : Box W6 b1 #[.int .i64 6, .bool false, .int .i64 0, .string ⟨#[]⟩, .slice A5 P5.length c5] := by rw [hW6]; exact xv5.put 4 _
      have ho6 : W6.ownsRow (b1 + 1) 2 1 (.slice A5 P5.length c5) (j + 1) (numCells P5) := by rw [hW6, ← HP5.out.2]; exact own_set HO5.out _ _ (by simp)
      have hs6 : b1 + 1 ≤ W6.heap.size := by rw [hW6]; simp; omega
      clear hW6 xr5 xv5 hbr5 hbv5 hfr5 hfv5 HB5 hk5 hsz5 HO5
      go_wp2
      go_roundg (gk - 1)
      case measure => have := HG.out; omega
      case rel =>
        have hgg := HG.out
        refine ⟨j + 1, a + 8, tb, .slice A5 P5.length c5, P5, by go_num, rfl, by go_num, by have := HA.out; omega, by omega, by omega, by omega, fun h => ?_, fun h => ?_, HP5.out.2, ho6, xr6, xv6, HB6, hs6⟩
        · have h8 : a + 8 ≤ bs.length := of_decide_eq_true (HTB.out.symm.trans h)
          refine ⟨?_, h8⟩
          rw [HP5.out.1, numsP_succ, (HOK.out (by trivial)).1, ← HY.out, HX.out, takeV, if_pos h8, HA.out]
        · exact ⟨by omega, of_decide_eq_false (HTB.out.symm.trans h)⟩
    · obtain ⟨A', c', rfl, hrA, hca, hAb⟩ := own_nums (p := P) (by rw [HPL.out]; exact HO.out)
      have hRt := fun W (hb : Below wr.heap.size wr W) => HRT.out W A' P c' (hrA.below hb) (below_then HB hb)
      obtain ⟨R, hR⟩ : ∃ R, rightB 6 false 0 ⟨#[]⟩ P = R := ⟨_, rfl⟩
      rw [hR] at hRt
      have HR6 := Aside0.mk hR
      clear hR hg
      have HGO := Aside0.mk hgo
      clear hgo
      cases okb with
      | false =>
        go_wp2_with (go_at_call 38; go_loud (refine (hRt _ (Below.refl _ _)).mono ?_))
        first
          | (intro e W8 he hb8; subst he)
          | rintro e W8 ⟨rfl, hb8⟩
        have HB8 := below_then HB hb8
        have xr8 := xr.kept hb8
        have xv8 := xv.kept hb8
        have hrA8 := hrA.below hb8
        have hbr8 := xr8.cells
        have hbv8 := xv8.cells
        have hfr8 := xr8.free
        have hfv8 := xv8.free
        clear hb8 hRt xr xv hbr hbv hfr hfv HB hrA
        have hDD : D = D7.bad := by
          rw [HANS.out]
          refine if_neg (fun h => ?_)
          have h1 := HNO.out (by trivial)
          have h2 := HA.out
          omega
        go_wp2
        obtain ⟨W7, hW7⟩ : ∃ W7, W7 = (((((W8.setCell ⟨w.heap.size, 0, none⟩ (.int .i64 0)).setCell ⟨w.heap.size, 1, none⟩ (.bool false)).setCell ⟨w.heap.size, 2, none⟩ (.int .i64 0)).setCell ⟨w.heap.size, 3, none⟩ (.string ⟨#[]⟩)).setCell ⟨w.heap.size, 4, none⟩ (.slice none 0 0)) := ⟨_, rfl⟩
        rw [← hW7]
        have HB7 : Below w.heap.size w W7 := by rw [hW7]; exact below_set (below_set (below_set (below_set (below_set HB8 (Nat.le_refl _) _) (Nat.le_refl _) _) (Nat.le_refl _) _) (Nat.le_refl _) _) (Nat.le_refl _) _
        have xr7 : Box W7 w.heap.size #[.int .i64 0, .bool false, .int .i64 0, .string ⟨#[]⟩, .slice none 0 0] := by rw [hW7]; exact ((((xr8.put 0 _).put 1 _).put 2 _).put 3 _).put 4 _
        refine bodyPost_ret (results_c3 _ rfl rfl (box_load xr7 rfl rfl rfl rfl rfl)) rfl ?_
        rw [hDD]
        exact ansD_empty rfl ⟨rfl, HB7⟩
      | true =>
        by_cases hjq2 : j < q
        · have hjqi : (j : Int) < (q : Int) := by omega
          have hn1 : ¬ q ≤ j := by omega
          have hn2 : ¬ (q : Int) ≤ (j : Int) := by omega
          obtain rfl : j = 10 := by
            have := HGO.out
            simp [hjq2] at this
            omega
          go_wp2_with (go_at_call 38; go_loud (refine (hRt _ (Below.refl _ _)).mono ?_))
          first
            | (intro e W8 he hb8; subst he)
            | rintro e W8 ⟨rfl, hb8⟩
          have HB8 := below_then HB hb8
          have xr8 := xr.kept hb8
          have xv8 := xv.kept hb8
          have hrA8 := hrA.below hb8
          have hbr8 := xr8.cells
          have hbv8 := xv8.cells
          have hfr8 := xr8.free
          have hfv8 := xv8.free
          clear hb8 hRt xr xv hbr hbv hfr hfv HB hrA
          have hDD : D = D7.bad := by
            rw [HANS.out]
            refine if_neg (fun h => ?_)
            have h1 := (right_k h.2.2)
            simp [numsP_len] at h1
            omega
          obtain rfl : R = false := by
            have h1 := HPL.out
            rw [← HR6.out]
            cases h2 : rightB 6 false 0 ⟨#[]⟩ P
            · rfl
            · have h3 := right_k h2
              simp at h3
              omega
          go_wp2
          obtain ⟨W7, hW7⟩ : ∃ W7, W7 = (((((W8.setCell ⟨w.heap.size, 0, none⟩ (.int .i64 0)).setCell ⟨w.heap.size, 1, none⟩ (.bool false)).setCell ⟨w.heap.size, 2, none⟩ (.int .i64 0)).setCell ⟨w.heap.size, 3, none⟩ (.string ⟨#[]⟩)).setCell ⟨w.heap.size, 4, none⟩ (.slice none 0 0)) := ⟨_, rfl⟩
          rw [← hW7]
          have HB7 : Below w.heap.size w W7 := by rw [hW7]; exact below_set (below_set (below_set (below_set (below_set HB8 (Nat.le_refl _) _) (Nat.le_refl _) _) (Nat.le_refl _) _) (Nat.le_refl _) _) (Nat.le_refl _) _
          have xr7 : Box W7 w.heap.size #[.int .i64 0, .bool false, .int .i64 0, .string ⟨#[]⟩, .slice none 0 0] := by rw [hW7]; exact ((((xr8.put 0 _).put 1 _).put 2 _).put 3 _).put 4 _
          refine bodyPost_ret (results_c3 _ rfl rfl (box_load xr7 rfl rfl rfl rfl rfl)) rfl ?_
          rw [hDD]
          exact ansD_empty rfl ⟨rfl, HB7⟩
        · obtain rfl : j = q := by omega
          have hn1 : ¬ j < j := by omega
          have hn2 : ¬ (j : Int) < (j : Int) := by omega
          clear hjq2
          cases R with
          | false =>
            go_wp2_with (go_at_call 38; go_loud (refine (hRt _ (Below.refl _ _)).mono ?_))
            first
              | (intro e W8 he hb8; subst he)
              | rintro e W8 ⟨rfl, hb8⟩
            have HB8 := below_then HB hb8
            have xr8 := xr.kept hb8
            have xv8 := xv.kept hb8
            have hrA8 := hrA.below hb8
            have hbr8 := xr8.cells
            have hbv8 := xv8.cells
            have hfr8 := xr8.free
            have hfv8 := xv8.free
            clear hb8 hRt xr xv hbr hbv hfr hfv HB hrA
            have hPP := (HOK.out (by trivial)).1
            have hfit := (HOK.out (by trivial)).2
            have haq := HA.out
            have hDD : D = D7.bad := by
              rw [HANS.out]
              refine if_neg (fun h => ?_)
              have h1 := HR6.out
              rw [hPP, h.2.2] at h1
              cases h1
            clear hPP
            have HCL := Aside0.mk haq
            clear haq hfit
            go_wp2
            obtain ⟨W7, hW7⟩ : ∃ W7, W7 = (((((W8.setCell ⟨w.heap.size, 0, none⟩ (.int .i64 0)).setCell ⟨w.heap.size, 1, none⟩ (.bool false)).setCell ⟨w.heap.size, 2, none⟩ (.int .i64 0)).setCell ⟨w.heap.size, 3, none⟩ (.string ⟨#[]⟩)).setCell ⟨w.heap.size, 4, none⟩ (.slice none 0 0)) := ⟨_, rfl⟩
            rw [← hW7]
            have HB7 : Below w.heap.size w W7 := by rw [hW7]; exact below_set (below_set (below_set (below_set (below_set HB8 (Nat.le_refl _) _) (Nat.le_refl _) _) (Nat.le_refl _) _) (Nat.le_refl _) _) (Nat.le_refl _) _
            have xr7 : Box W7 w.heap.size #[.int .i64 0, .bool false, .int .i64 0, .string ⟨#[]⟩, .slice none 0 0] := by rw [hW7]; exact ((((xr8.put 0 _).put 1 _).put 2 _).put 3 _).put 4 _
            refine bodyPost_ret (results_c3 _ rfl rfl (box_load xr7 rfl rfl rfl rfl rfl)) rfl ?_
            rw [hDD]
            exact ansD_empty rfl ⟨rfl, HB7⟩
          | true =>
            go_wp2_with (go_at_call 38; go_loud (refine (hRt _ (Below.refl _ _)).mono ?_))
            first
              | (intro e W8 he hb8; subst he)
              | rintro e W8 ⟨rfl, hb8⟩
            have HB8 := below_then HB hb8
            have xr8 := xr.kept hb8
            have xv8 := xv.kept hb8
            have hrA8 := hrA.below hb8
            have hbr8 := xr8.cells
            have hbv8 := xv8.cells
            have hfr8 := xr8.free
            have hfv8 := xv8.free
            clear hb8 hRt xr xv hbr hbv hfr hfv HB hrA
            have hPP := (HOK.out (by trivial)).1
            have hfit := (HOK.out (by trivial)).2
            have haq := HA.out
            have hDD : D = ⟨6, 0, false, ⟨#[]⟩, P, (a : Int), 0⟩ := by
              rw [HANS.out, hPP]
              refine (if_pos ⟨HM2.out, by omega, by rw [← hPP]; exact HR6.out⟩).trans ?_
              have : (i : Int) + 2 + 8 * (j : Int) = (a : Int) := by omega
              rw [this]
            clear hPP
            have HCL := Aside0.mk haq
            clear haq hfit
            go_wp2
            obtain ⟨W7, hW7⟩ : ∃ W7, W7 = (((((W8.setCell ⟨w.heap.size, 0, none⟩ (.int .i64 6)).setCell ⟨w.heap.size, 1, none⟩ (.bool false)).setCell ⟨w.heap.size, 2, none⟩ (.int .i64 0)).setCell ⟨w.heap.size, 3, none⟩ (.string ⟨#[]⟩)).setCell ⟨w.heap.size, 4, none⟩ (.slice A' P.length c')) := ⟨_, rfl⟩
            rw [← hW7]
            have HB7 : Below w.heap.size w W7 := by rw [hW7]; exact below_set (below_set (below_set (below_set (below_set HB8 (Nat.le_refl _) _) (Nat.le_refl _) _) (Nat.le_refl _) _) (Nat.le_refl _) _) (Nat.le_refl _) _
            have xr7 : Box W7 w.heap.size #[.int .i64 6, .bool false, .int .i64 0, .string ⟨#[]⟩, .slice A' P.length c'] := by rw [hW7]; exact ((((xr8.put 0 _).put 1 _).put 2 _).put 3 _).put 4 _
            have hrA7 : ReadsI W7 A' P := readsI_off hrA8 hAb (fun k hk => by
              have h9 : k ≠ w.heap.size := by omega
              rw [hW7, heap_setCell_other _ _ _ _ h9, heap_setCell_other _ _ _ _ h9, heap_setCell_other _ _ _ _ h9, heap_setCell_other _ _ _ _ h9, heap_setCell_other _ _ _ _ h9])
            refine bodyPost_ret (results_c3 _ rfl rfl (box_load xr7 rfl rfl rfl rfl rfl)) rfl ?_
            rw [hDD]
            exact ⟨A', c', rfl, hrA7, HB7⟩
theorem decO_0 {bs : List Int} {i : Nat} (hk : bs.getD i 0 = 0) : decO bs i = ⟨0, 0, false, ⟨#[]⟩, [], (i : Int) + 1, 0⟩ := by rw [decO, hk]; rfl
theorem decO_1 {bs : List Int} {i : Nat} (hk : bs.getD i 0 = 1) : decO bs i = if i + 1 + 1 ≤ bs.length ∧ beI ((bs.drop (i + 1)).take 1) ≤ 1 then ⟨1, 0, beI ((bs.drop (i + 1)).take 1) == 1, ⟨#[]⟩, [], (i : Int) + 2, 0⟩ else D7.bad := by rw [decO, hk]; rfl
theorem decO_n {bs : List Int} {i : Nat} {k : Int} (hk : bs.getD i 0 = k) (h : k = 2 ∨ k = 4 ∨ k = 5) : decO bs i = if i + 1 + 8 ≤ bs.length ∧ rightB k false (sgn (beI ((bs.drop (i + 1)).take 8))) ⟨#[]⟩ [] = true then ⟨k, sgn (beI ((bs.drop (i + 1)).take 8)), false, ⟨#[]⟩, [], (i : Int) + 9, 0⟩ else D7.bad := by
  rw [decO, hk]
  rcases h with rfl | rfl | rfl <;> rfl
theorem decO_3 {bs : List Int} {i : Nat} (hk : bs.getD i 0 = 3) : decO bs i = if i + 1 + 4 ≤ bs.length ∧ beI ((bs.drop (i + 1)).take 4) ≤ 4096 ∧ beI ((bs.drop (i + 1)).take 4) ≤ (bs.length : Int) - ((i : Int) + 5) ∧ rightB 3 false 0 (strOfNums ((bs.drop (i + 5)).take (beI ((bs.drop (i + 1)).take 4)).toNat)) [] = true
    then ⟨3, 0, false, strOfNums ((bs.drop (i + 5)).take (beI ((bs.drop (i + 1)).take 4)).toNat), [], (i : Int) + 5 + beI ((bs.drop (i + 1)).take 4), 0⟩ else D7.bad := by rw [decO, hk]; rfl
theorem decO_6 {bs : List Int} {i : Nat} (hk : bs.getD i 0 = 6) : decO bs i = if i + 1 + 1 ≤ bs.length ∧ i + 2 + 8 * (bs.getD (i + 1) 0).toNat ≤ bs.length ∧ rightB 6 false 0 ⟨#[]⟩ (numsP bs (i + 2) (bs.getD (i + 1) 0).toNat) = true
    then ⟨6, 0, false, ⟨#[]⟩, numsP bs (i + 2) (bs.getD (i + 1) 0).toNat, (i : Int) + 2 + 8 * (bs.getD (i + 1) 0).toNat, 0⟩ else D7.bad := by rw [decO, hk]; rfl
theorem decO_over {bs : List Int} {i : Nat} (hk : 6 < bs.getD i 0) : decO bs i = D7.bad := by
  unfold decO
  rw [if_neg (by omega), if_neg (by omega), if_neg (by omega), if_neg (by omega), if_neg (by omega)]
theorem rdec_any (A : Option Addr) (bs : List Int) (c : Nat) (z : Int) (w : World) (hr : ReadsB w A bs) (hbt : ∀ x ∈ bs, 0 ≤ x ∧ x < 256) (hc : bs.length ≤ c) (hil : bs.length ≤ 9223372036854770000) (hT : Lib.Utf8Tabs 0 1 w) :
    Calls Tryd.prog 44 #[.slice A bs.length c, .int .i64 z] w (AnsD (decZ bs z) w) := by
  by_cases hz : 0 ≤ z ∧ z < (bs.length : Int)
  · obtain ⟨i, rfl⟩ := Int.eq_ofNat_of_zero_le hz.1
    have hi : i < bs.length := by omega
    have hii : i ≤ 9223372036854770000 := by omega
    rw [decZ, if_pos hz, Int.toNat_natCast]
    have hb := hbt (bs.getD i 0) (by rw [List.getD_eq_getElem?_getD, List.getElem?_eq_getElem hi]; exact List.getElem_mem _)
    have hcs : bs.getD i 0 = 0 ∨ bs.getD i 0 = 1 ∨ bs.getD i 0 = 2 ∨ bs.getD i 0 = 3 ∨ bs.getD i 0 = 4 ∨ bs.getD i 0 = 5 ∨ bs.getD i 0 = 6 ∨ 6 < bs.getD i 0 := by omega
    have num : ∀ k : Int, bs.getD i 0 = k → (k = 2 ∨ k = 4 ∨ k = 5) → (i + 1 + 8 ≤ bs.length → rightB k false (sgn (beI ((bs.drop (i + 1)).take 8))) ⟨#[]⟩ [] = true → Calls Tryd.prog 44 #[.slice A bs.length c, .int .i64 (i : Int)] w fun e w' => e = .returned (.tuple #[.agg #[.int .i64 k, .bool false, .int .i64 (sgn (beI ((bs.drop (i + 1)).take 8))), .string ⟨#[]⟩, .slice none 0 0], .int .i64 ((i : Int) + 9), .int .i64 0]) ∧ Below w.heap.size w w') →
        ((¬ i + 1 + 8 ≤ bs.length ∨ (i + 1 + 8 ≤ bs.length ∧ rightB k false (sgn (beI ((bs.drop (i + 1)).take 8))) ⟨#[]⟩ [] = false)) → Calls Tryd.prog 44 #[.slice A bs.length c, .int .i64 (i : Int)] w fun e w' => e = .returned (.tuple #[.agg #[.int .i64 0, .bool false, .int .i64 0, .string ⟨#[]⟩, .slice none 0 0], .int .i64 0, .int .i64 21]) ∧ Below w.heap.size w w') →
        Calls Tryd.prog 44 #[.slice A bs.length c, .int .i64 (i : Int)] w (AnsD (decO bs i) w) := fun k hk h h1 h2 => by
      rw [decO_n hk h]
      by_cases hf : i + 1 + 8 ≤ bs.length
      · cases hR : rightB k false (sgn (beI ((bs.drop (i + 1)).take 8))) ⟨#[]⟩ []
        · rw [if_neg (by simp)]
          exact (h2 (.inr ⟨hf, hR⟩)).mono fun e w' h => ansD_empty rfl h
        · rw [if_pos ⟨hf, rfl⟩]
          exact (h1 hf hR).mono fun e w' h => ansD_empty rfl h
      · rw [if_neg (fun h => hf h.1)]
        exact (h2 (.inl hf)).mono fun e w' h => ansD_empty rfl h
    rcases hcs with hk | hk | hk | hk | hk | hk | hk | hk
    · rw [decO_0 hk]
      exact (rdec_0 A bs c i w hr hbt hi hii hk hT).mono fun e w' h => ansD_empty rfl h
    · rw [decO_1 hk]
      by_cases hf : i + 1 + 1 ≤ bs.length
      · by_cases hx : beI ((bs.drop (i + 1)).take 1) ≤ 1
        · rw [if_pos ⟨hf, hx⟩]
          exact (rdec_1_ok A bs c i w hr hbt hi hii hk hf hx hT).mono fun e w' h => ansD_empty rfl h
        · rw [if_neg (fun h => hx h.2)]
          exact (rdec_1_not A bs c i w hr hbt hi hii hk hf hx hT).mono fun e w' h => ansD_empty rfl h
      · rw [if_neg (fun h => hf h.1)]
        exact (rdec_1_short A bs c i w hr hbt hi hii hk hf hT).mono fun e w' h => ansD_empty rfl h
    · refine num 2 hk (by simp) (fun hf hR => rdec_2_ok A bs c i w hr hbt hi hii hk hf hR hT) (fun h => ?_)
      rcases h with hf | ⟨hf, hR⟩
      · exact rdec_2_short A bs c i w hr hbt hi hii hk hf hT
      · exact absurd hR (by rw [show rightB 2 false (sgn (beI ((bs.drop (i + 1)).take 8))) ⟨#[]⟩ [] = true from by simp [rightB]; rfl]; simp)
    · rw [decO_3 hk]
      by_cases hf : i + 1 + 4 ≤ bs.length
      · by_cases hx : beI ((bs.drop (i + 1)).take 4) ≤ 4096
        · by_cases hx2 : beI ((bs.drop (i + 1)).take 4) ≤ (bs.length : Int) - ((i : Int) + 5)
          · cases hR : rightB 3 false 0 (strOfNums ((bs.drop (i + 5)).take (beI ((bs.drop (i + 1)).take 4)).toNat)) []
            · rw [if_neg (by simp)]
              exact (rdec_3_not A bs c i w hr hbt hi hii hk hf hx hx2 hc hR hT).mono fun e w' h => ansD_empty rfl h
            · rw [if_pos ⟨hf, hx, hx2, rfl⟩]
              exact (rdec_3_ok A bs c i w hr hbt hi hii hk hf hx hx2 hc hR hT).mono fun e w' h => ansD_empty rfl h
          · rw [if_neg (fun h => hx2 h.2.2.1)]
            exact (rdec_3_past A bs c i w hr hbt hi hii hk hf hx hx2 hT).mono fun e w' h => ansD_empty rfl h
        · rw [if_neg (fun h => hx h.2.1)]
          exact (rdec_3_over A bs c i w hr hbt hi hii hk hf hx hT).mono fun e w' h => ansD_empty rfl h
      · rw [if_neg (fun h => hf h.1)]
        exact (rdec_3_short A bs c i w hr hbt hi hii hk hf hT).mono fun e w' h => ansD_empty rfl h
    · refine num 4 hk (by simp) (fun hf hR => rdec_4_ok A bs c i w hr hbt hi hii hk hf hR hT) (fun h => ?_)
      rcases h with hf | ⟨hf, hR⟩
      · exact rdec_4_short A bs c i w hr hbt hi hii hk hf hT
      · exact rdec_4_not A bs c i w hr hbt hi hii hk hf hR hT
    · refine num 5 hk (by simp) (fun hf hR => rdec_5_ok A bs c i w hr hbt hi hii hk hf hR hT) (fun h => ?_)
      rcases h with hf | ⟨hf, hR⟩
      · exact rdec_5_short A bs c i w hr hbt hi hii hk hf hT
      · exact rdec_5_not A bs c i w hr hbt hi hii hk hf hR hT
    · by_cases hf : i + 1 + 1 ≤ bs.length
      · exact rdec_6 A bs c i w hr hbt hi hii hk hf hT
      · rw [decO_6 hk, if_neg (fun h => hf h.1)]
        exact (rdec_6_short A bs c i w hr hbt hi hii hk hf hT).mono fun e w' h => ansD_empty rfl h
    · rw [decO_over hk]
      exact (rdec_kind A bs c i w hr hi hk).mono fun e w' h => ansD_empty rfl h
  · rw [decZ, if_neg hz]
    exact (rdec_range A bs c z w (by omega) (by omega)).mono fun e w' h => ansD_empty rfl h
end Go.Proofs.YthafbdkjpgeopaaDoor
