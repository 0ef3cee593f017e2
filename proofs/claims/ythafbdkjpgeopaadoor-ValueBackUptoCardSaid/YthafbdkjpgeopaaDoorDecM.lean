/- value.Decode, kind by kind. value.Decode: what is refused ahead of a value. value.Decode: texts. value.Decode: paths. value.Decode, whole. An append of bytes that are read to an own row; an own row of bytes as a slice that is read. -/
import Derived.Test.YthafbdkjpgeopaaDoorDecW
import Derived.Deep.Cut
import Derived.WalkMore
import Derived.ScopeJumps
import Derived.Deep.RegionHeld3
import Derived.BigGuardPart
import Derived.Test.YthafbdkjpgeopaaDoorRegS
import Derived.Test.YthafbdkjpgeopaaDoorRDecM
import Derived.Test.YthafbdkjpgeopaaDoorRegT
import Derived.Deep.AppendSrc
import Derived.Deep.Upon
set_option linter.unusedVariables false
set_option linter.unusedSimpArgs false
namespace Go.Proofs.YthafbdkjpgeopaaDoor
open Go.RowKit

theorem sub_sub_nat (m i : Nat) (h : i ≤ m) : (m : Int) - ((m - i : Nat) : Int) = (i : Int) := by omega
set_option maxRecDepth 100000 in
set_option maxHeartbeats 3200000 in
theorem dec_0 (A : Option Addr) (bs : List Int) (c : Nat) (i : Nat) (w : World) (hr : ReadsB w A bs) (hi : i < bs.length) (hc : bs.length ≤ c) (hbt : ∀ x ∈ bs, 0 ≤ x ∧ x < 256) (hk : bs.getD i 0 = 0)  :
    Calls Tryd.prog 36 #[.slice A bs.length c, .int .i64 (i : Int)] w fun e w' => e = .returned (.tuple #[.agg #[.int .i64 0, .bool false, .int .i64 0, .string ⟨#[]⟩, .slice none 0 0], .int .i64 ((i : Int) + 1), .int .i64 0]) ∧ Below w.heap.size w w' := by
  obtain ⟨ad, rfl, hcell⟩ := hr.2 (by omega)
  have hci : ∀ W, Below w.heap.size w W → W.cell? (ad.add i) = some (.int .u8 0) := fun W hW => by
    obtain ⟨ad', e, h⟩ := (hr.below hW).2 (by omega)
    cases e
    rw [h i hi, hk]
  have hmx := hr.1
  have hrd := hr.drop c (i + 1) hc
  obtain ⟨m, hm⟩ : ∃ m, m = bs.length := ⟨_, rfl⟩
  have hlr : (bs.drop (i + 1)).length = m - (i + 1) := by rw [List.length_drop, hm]
  (try rw [← hm] at hs)
  rw [← hm] at hi hc hmx ⊢
  have hsl : ∀ W, (Instr.slice 30 (.slice (some ad) m c) (some (.int .i64 ((i : Int) + 1))) none none).run Tryd.prog W = .ok (.slice (cutA (some ad) c (i + 1)) (m - (i + 1)) (c - (i + 1))) W := fun W => slice_from W (some ad) m c (i + 1) (by omega) (by omega)
  generalize cutA (some ad) c (i + 1) = Q at hsl hrd
  have hrs : ∀ x ∈ bs.drop (i + 1), 0 ≤ x ∧ x < 256 := fun x hx => hbt x (List.mem_of_mem_drop hx)
  first
    | generalize bs.drop (i + 1) = rs at hlr hrd hrs hn ⊢
    | generalize bs.drop (i + 1) = rs at hlr hrd hrs ⊢
  have hii : (i : Int) < (m : Int) := by omega
  have hi0 : (0 : Int) ≤ (i : Int) := by omega
  have HM := Aside0.mk hm
  have HR := Aside0.mk hr
  have HRD := Aside0.mk hrd
  have HLR := Aside0.mk hlr
  have HCI := Aside0.mk hci
  clear hm hr hk hcell hrd hlr hci hbt
  go_enter Tryd.func36, Tryd.ntmps36
  go_wp2
  go_step3
  go_upto_region 6 with (fail)
  obtain ⟨W2, hW2⟩ : ∃ W2, W2 = (w.alloc (.cells #[.int .i64 0, .bool false, .int .i64 0, .string ⟨#[]⟩, .slice none 0 0] 25)).alloc (.cells #[.int .i64 0, .bool false, .int .i64 0, .string ⟨#[]⟩, .slice none 0 0] 25) := ⟨_, rfl⟩
  rw [← hW2]
  have HB2 : Below w.heap.size w W2 := by rw [hW2]; exact below_more (below_more (Below.refl _ _) _) _
  have hz2 : w.heap.size + 1 < W2.heap.size := by rw [hW2]; simp
  have xr2 : Box W2 w.heap.size #[.int .i64 0, .bool false, .int .i64 0, .string ⟨#[]⟩, .slice none 0 0] := by rw [hW2]; exact (Box.new w _).more _
  have xv2 : Box W2 (w.heap.size + 1) #[.int .i64 0, .bool false, .int .i64 0, .string ⟨#[]⟩, .slice none 0 0] := by rw [hW2]; have h := Box.new (w.alloc (.cells #[.int .i64 0, .bool false, .int .i64 0, .string ⟨#[]⟩, .slice none 0 0] 25)) #[.int .i64 0, .bool false, .int .i64 0, .string ⟨#[]⟩, .slice none 0 0]; simpa using h
  have hbr2 := xr2.cells
  have hbv2 := xv2.cells
  have hfr2 := xr2.free
  have hfv2 := xv2.free
  have hcx := HCI.out W2 HB2
  clear hW2
  go_upto_region 8 with (fail)
  obtain ⟨W3, hW3⟩ : ∃ W3, W3 = W2.setCell ⟨w.heap.size + 1, 0, none⟩ (.int .i64 0) := ⟨_, rfl⟩
  rw [← hW3]
  have HB3 : Below w.heap.size w W3 := by rw [hW3]; exact below_set HB2 (by simp) _
  have hz3 : w.heap.size + 1 < W3.heap.size := by rw [hW3]; simpa using hz2
  have xr3 : Box W3 w.heap.size #[.int .i64 0, .bool false, .int .i64 0, .string ⟨#[]⟩, .slice none 0 0] := by rw [hW3]; exact xr2.off _ _ (by simp)
  have xv3 : Box W3 (w.heap.size + 1) #[.int .i64 0, .bool false, .int .i64 0, .string ⟨#[]⟩, .slice none 0 0] := by rw [hW3]; exact xv2.put 0 _
  have hbr3 := xr3.cells
  have hbv3 := xv3.cells
  have hfr3 := xr3.free
  have hfv3 := xv3.free
  clear hW3 xr2 xv2 hbr2 hbv2 hfr2 hfv2 HB2 hz2
  obtain ⟨m1, hm1⟩ : ∃ m1, m1 = m - (i + 1) := ⟨_, rfl⟩
  obtain ⟨c1, hc1⟩ : ∃ c1, c1 = c - (i + 1) := ⟨_, rfl⟩
  rw [← hm1, ← hc1]
  have hmc1 : m1 ≤ c1 := by omega
  have HLR2 : rs.length = m1 := by rw [HLR.out, hm1]
  (try rw [← hm1] at hs)
  have hnx : (m : Int) - (m1 : Int) = (i : Int) + 1 := by omega
  have HNX := Aside0.mk hnx
  clear hnx hm1 hc1 hsl hcx
  have hst : ∀ W, (Instr.slice 30 (.slice Q m1 c1) none (some (.int .i64 0)) none).run Tryd.prog W = .ok (.slice Q 0 c1) W := fun W => slice_to W Q m1 c1 0 (by omega) (by omega)
  have hsf : ∀ W, (Instr.slice 30 (.slice Q m1 c1) (some (.int .i64 0)) none none).run Tryd.prog W = .ok (.slice (cutA Q c1 0) (m1 - 0) (c1 - 0)) W := fun W => slice_from W Q m1 c1 0 (by omega) (by omega)
  have HR2 := (HRD.out.drop c1 0 (by omega))
  generalize cutA Q c1 0 = Q2 at hsf HR2
  have hmin : min (0 : Int) 7 = 0 := by decide
  go_upto_region 11 with (fail)
  obtain ⟨W4, hW4⟩ : ∃ W4, W4 = W3.alloc (.cells #[.int .i64 0, .int .i64 1, .int .i64 8, .int .i64 4, .int .i64 8, .int .i64 8, .int .i64 1, .int .i64 0] 3) := ⟨_, rfl⟩
  rw [← hW4]
  have HB4 : Below w.heap.size w W4 := by rw [hW4]; exact below_more HB3 _
  have hz4 : w.heap.size + 1 < W4.heap.size := by rw [hW4]; simp; omega
  have xr4 : Box W4 w.heap.size #[.int .i64 0, .bool false, .int .i64 0, .string ⟨#[]⟩, .slice none 0 0] := by rw [hW4]; exact xr3.more _
  have xv4 : Box W4 (w.heap.size + 1) #[.int .i64 0, .bool false, .int .i64 0, .string ⟨#[]⟩, .slice none 0 0] := by rw [hW4]; exact xv3.more _
  have hbr4 := xr4.cells
  have hbv4 := xv4.cells
  have hfr4 := xr4.free
  have hfv4 := xv4.free
  clear hW4 xr3 xv3 hbr3 hbv3 hfr3 hfv3 HB3 hz3 hmin hst
  refine wp_loop_rounds 1 ?_
  rw [rounds_succ]
  have hRt : ∀ W, Below w.heap.size w W → Calls Tryd.prog 22 #[.agg #[.int .i64 0, .bool false, .int .i64 0, .string ⟨#[]⟩, .slice none 0 0]] W fun e w' => e = .returned (.bool true) ∧ Below W.heap.size W w' := fun W hW => by
    have h := right_any 0 0 false ⟨#[]⟩ none [] 0 W ⟨by decide, fun h => absurd h (by decide)⟩
    exact h
  go_wp2_with (go_at_call 22; refine (hRt _ HB4).mono ?_)
  first
    | (intro e W6 he hb6; subst he)
    | rintro e W6 ⟨rfl, hb6⟩
  have HB6 := below_then HB4 hb6
  have hz6 : w.heap.size + 1 < W6.heap.size := by have := hb6.size; omega
  have xr6 := xr4.kept hb6
  have xv6 := xv4.kept hb6
  have hbr6 := xr6.cells
  have hbv6 := xv6.cells
  have hfr6 := xr6.free
  have hfv6 := xv6.free
  clear hb6 xr4 xv4 hbr4 hbv4 hfr4 hfv4 HB4 hz4
  have hnw : RowKit.wrap64 ((m : Int) - ((m1 : Nat) : Int)) = (i : Int) + 1 := by
    have := HNX.out
    rw [show (m : Int) - ((m1 : Nat) : Int) = (i : Int) + 1 by omega]
    unfold RowKit.wrap64
    omega
  go_wp2
  obtain ⟨W7, hW7⟩ : ∃ W7, W7 = (((((W6.setCell ⟨w.heap.size, 0, none⟩ (.int .i64 0)).setCell ⟨w.heap.size, 1, none⟩ (.bool false)).setCell ⟨w.heap.size, 2, none⟩ (.int .i64 0)).setCell ⟨w.heap.size, 3, none⟩ (.string ⟨#[]⟩)).setCell ⟨w.heap.size, 4, none⟩ (.slice none 0 0)) := ⟨_, rfl⟩
  rw [← hW7]
  have HB7 : Below w.heap.size w W7 := by rw [hW7]; exact below_set (below_set (below_set (below_set (below_set HB6 (by simp) _) (by simp) _) (by simp) _) (by simp) _) (by simp) _
  have xr7 : Box W7 w.heap.size #[.int .i64 0, .bool false, .int .i64 0, .string ⟨#[]⟩, .slice none 0 0] := by rw [hW7]; exact ((((xr6.put 0 _).put 1 _).put 2 _).put 3 _).put 4 _
  rw [Exit.noGoto_ret]
  (try subst hyy)
  (try subst hxx)
  refine bodyPost_ret (results_c3 _ rfl rfl (box_load xr7 rfl rfl rfl rfl rfl)) rfl ?_
  first
    | exact ⟨rfl, HB7⟩
    | exact ⟨congrArg (fun z => Ending.returned (Value.tuple #[_, Value.int .i64 z, Value.int .i64 0])) hnw, HB7⟩

set_option maxRecDepth 100000 in
set_option maxHeartbeats 3200000 in
theorem dec_1 (A : Option Addr) (bs : List Int) (c : Nat) (i : Nat) (w : World) (hr : ReadsB w A bs) (hi : i < bs.length) (hc : bs.length ≤ c) (hbt : ∀ x ∈ bs, 0 ≤ x ∧ x < 256) (hk : bs.getD i 0 = 1) (hs : 1 ≤ bs.length - (i + 1)) (hn : beI ((bs.drop (i + 1)).take 1) ≤ 1) :
    Calls Tryd.prog 36 #[.slice A bs.length c, .int .i64 (i : Int)] w fun e w' => e = .returned (.tuple #[.agg #[.int .i64 1, .bool (beI ((bs.drop (i + 1)).take 1) == 1), .int .i64 0, .string ⟨#[]⟩, .slice none 0 0], .int .i64 ((i : Int) + 2), .int .i64 0]) ∧ Below w.heap.size w w' := by
  obtain ⟨ad, rfl, hcell⟩ := hr.2 (by omega)
  have hci : ∀ W, Below w.heap.size w W → W.cell? (ad.add i) = some (.int .u8 1) := fun W hW => by
    obtain ⟨ad', e, h⟩ := (hr.below hW).2 (by omega)
    cases e
    rw [h i hi, hk]
  have hmx := hr.1
  have hrd := hr.drop c (i + 1) hc
  obtain ⟨m, hm⟩ : ∃ m, m = bs.length := ⟨_, rfl⟩
  have hlr : (bs.drop (i + 1)).length = m - (i + 1) := by rw [List.length_drop, hm]
  (try rw [← hm] at hs)
  rw [← hm] at hi hc hmx ⊢
  have hsl : ∀ W, (Instr.slice 30 (.slice (some ad) m c) (some (.int .i64 ((i : Int) + 1))) none none).run Tryd.prog W = .ok (.slice (cutA (some ad) c (i + 1)) (m - (i + 1)) (c - (i + 1))) W := fun W => slice_from W (some ad) m c (i + 1) (by omega) (by omega)
  generalize cutA (some ad) c (i + 1) = Q at hsl hrd
  have hrs : ∀ x ∈ bs.drop (i + 1), 0 ≤ x ∧ x < 256 := fun x hx => hbt x (List.mem_of_mem_drop hx)
  first
    | generalize bs.drop (i + 1) = rs at hlr hrd hrs hn ⊢
    | generalize bs.drop (i + 1) = rs at hlr hrd hrs ⊢
  have hii : (i : Int) < (m : Int) := by omega
  have hi0 : (0 : Int) ≤ (i : Int) := by omega
  have HM := Aside0.mk hm
  have HR := Aside0.mk hr
  have HRD := Aside0.mk hrd
  have HLR := Aside0.mk hlr
  have HCI := Aside0.mk hci
  clear hm hr hk hcell hrd hlr hci hbt
  go_enter Tryd.func36, Tryd.ntmps36
  go_wp2
  go_step3
  go_upto_region 6 with (fail)
  obtain ⟨W2, hW2⟩ : ∃ W2, W2 = (w.alloc (.cells #[.int .i64 0, .bool false, .int .i64 0, .string ⟨#[]⟩, .slice none 0 0] 25)).alloc (.cells #[.int .i64 0, .bool false, .int .i64 0, .string ⟨#[]⟩, .slice none 0 0] 25) := ⟨_, rfl⟩
  rw [← hW2]
  have HB2 : Below w.heap.size w W2 := by rw [hW2]; exact below_more (below_more (Below.refl _ _) _) _
  have hz2 : w.heap.size + 1 < W2.heap.size := by rw [hW2]; simp
  have xr2 : Box W2 w.heap.size #[.int .i64 0, .bool false, .int .i64 0, .string ⟨#[]⟩, .slice none 0 0] := by rw [hW2]; exact (Box.new w _).more _
  have xv2 : Box W2 (w.heap.size + 1) #[.int .i64 0, .bool false, .int .i64 0, .string ⟨#[]⟩, .slice none 0 0] := by rw [hW2]; have h := Box.new (w.alloc (.cells #[.int .i64 0, .bool false, .int .i64 0, .string ⟨#[]⟩, .slice none 0 0] 25)) #[.int .i64 0, .bool false, .int .i64 0, .string ⟨#[]⟩, .slice none 0 0]; simpa using h
  have hbr2 := xr2.cells
  have hbv2 := xv2.cells
  have hfr2 := xr2.free
  have hfv2 := xv2.free
  have hcx := HCI.out W2 HB2
  clear hW2
  go_upto_region 8 with (fail)
  obtain ⟨W3, hW3⟩ : ∃ W3, W3 = W2.setCell ⟨w.heap.size + 1, 0, none⟩ (.int .i64 1) := ⟨_, rfl⟩
  rw [← hW3]
  have HB3 : Below w.heap.size w W3 := by rw [hW3]; exact below_set HB2 (by simp) _
  have hz3 : w.heap.size + 1 < W3.heap.size := by rw [hW3]; simpa using hz2
  have xr3 : Box W3 w.heap.size #[.int .i64 0, .bool false, .int .i64 0, .string ⟨#[]⟩, .slice none 0 0] := by rw [hW3]; exact xr2.off _ _ (by simp)
  have xv3 : Box W3 (w.heap.size + 1) #[.int .i64 1, .bool false, .int .i64 0, .string ⟨#[]⟩, .slice none 0 0] := by rw [hW3]; exact xv2.put 0 _
  have hbr3 := xr3.cells
  have hbv3 := xv3.cells
  have hfr3 := xr3.free
  have hfv3 := xv3.free
  clear hW3 xr2 xv2 hbr2 hbv2 hfr2 hfv2 HB2 hz2
  obtain ⟨m1, hm1⟩ : ∃ m1, m1 = m - (i + 1) := ⟨_, rfl⟩
  obtain ⟨c1, hc1⟩ : ∃ c1, c1 = c - (i + 1) := ⟨_, rfl⟩
  rw [← hm1, ← hc1]
  have hmc1 : m1 ≤ c1 := by omega
  have HLR2 : rs.length = m1 := by rw [HLR.out, hm1]
  (try rw [← hm1] at hs)
  have hnx : (m : Int) - (m1 : Int) = (i : Int) + 1 := by omega
  have HNX := Aside0.mk hnx
  clear hnx hm1 hc1 hsl hcx
  have hst : ∀ W, (Instr.slice 30 (.slice Q m1 c1) none (some (.int .i64 1)) none).run Tryd.prog W = .ok (.slice Q 1 c1) W := fun W => slice_to W Q m1 c1 1 (by omega) (by omega)
  have hsf : ∀ W, (Instr.slice 30 (.slice Q m1 c1) (some (.int .i64 1)) none none).run Tryd.prog W = .ok (.slice (cutA Q c1 1) (m1 - 1) (c1 - 1)) W := fun W => slice_from W Q m1 c1 1 (by omega) (by omega)
  have HR2 := (HRD.out.drop c1 1 (by omega))
  generalize cutA Q c1 1 = Q2 at hsf HR2
  have hmin : min (1 : Int) 7 = 1 := by decide
  go_upto_region 11 with (fail)
  obtain ⟨W4, hW4⟩ : ∃ W4, W4 = W3.alloc (.cells #[.int .i64 0, .int .i64 1, .int .i64 8, .int .i64 4, .int .i64 8, .int .i64 8, .int .i64 1, .int .i64 0] 3) := ⟨_, rfl⟩
  rw [← hW4]
  have HB4 : Below w.heap.size w W4 := by rw [hW4]; exact below_more HB3 _
  have hz4 : w.heap.size + 1 < W4.heap.size := by rw [hW4]; simp; omega
  have xr4 : Box W4 w.heap.size #[.int .i64 0, .bool false, .int .i64 0, .string ⟨#[]⟩, .slice none 0 0] := by rw [hW4]; exact xr3.more _
  have xv4 : Box W4 (w.heap.size + 1) #[.int .i64 1, .bool false, .int .i64 0, .string ⟨#[]⟩, .slice none 0 0] := by rw [hW4]; exact xv3.more _
  have hbr4 := xr4.cells
  have hbv4 := xv4.cells
  have hfr4 := xr4.free
  have hfv4 := xv4.free
  clear hW4 xr3 xv3 hbr3 hbv3 hfr3 hfv3 HB3 hz3 hmin hst
  obtain ⟨ae, rfl⟩ : ∃ ae, Q = some ae := (HRD.out.2 (by omega)).imp fun _ h => h.1
  have HRS := Aside0.mk hrs
  clear hrs
  go_loopg [9, 53] 2 (fun gg s9 s53 wr => ∃ j : Nat, j ≤ 1 ∧ 1 < gg + j ∧ s53 = .int .i64 j ∧ s9 = .int .u64 (beI (rs.take j)) ∧ wr = W4)
  case atStart => exact ⟨0, by omega, by omega, rfl, rfl, rfl⟩
  case round =>
    obtain ⟨j, hj, hg, rfl, rfl, rfl⟩ := hrel
    by_cases hlt : j < 1
    · have hlti : (j : Int) < 1 := by omega
      have hj0 : (0 : Int) ≤ (j : Int) := by omega
      have hcell : wr.cell? (ae.add j) = some (.int .u8 (rs.getD j 0)) := by
        obtain ⟨ae', e, h⟩ := (HRD.out.below HB4).2 (by omega)
        cases e
        exact h j (by omega)
      have hcb := HRS.out (rs.getD j 0) (by rw [List.getD_eq_getElem?_getD, List.getElem?_eq_getElem (by omega)]; exact List.getElem_mem _)
      have hbe := beI_take rs j (by omega)
      have hxb := beI_bound j (rs.take j) (by rw [List.length_take]; omega) (fun x hx => HRS.out x (List.mem_of_mem_take hx))
      have hx7 : (256 : Int) ^ j ≤ 72057594037927936 := by
        have : j = 0 ∨ j = 1 ∨ j = 2 ∨ j = 3 ∨ j = 4 ∨ j = 5 ∨ j = 6 ∨ j = 7 := by omega
        rcases this with rfl | rfl | rfl | rfl | rfl | rfl | rfl | rfl <;> decide
      generalize rs.getD j 0 = y at hcell hcb hbe
      generalize beI (rs.take j) = x at hbe hxb
      have hor := or_byte64 x y hxb.1 (by omega) hcb.1 hcb.2
      have HBE := Aside0.mk hbe
      clear hbe
      go_wp2
      go_roundg (gk - 1)
      case measure => omega
      case rel => exact ⟨j + 1, by omega, by omega, by go_num, by rw [HBE.out], rfl⟩
    · obtain rfl : j = 1 := by omega
      clear hlt hj hg
      have hn0 : 0 ≤ beI (rs.take 1) := (beI_bound 1 (rs.take 1) (by rw [List.length_take]; omega) (fun x hx => HRS.out x (List.mem_of_mem_take hx))).1
      generalize hxx : beI (rs.take 1) = x at hn hn0
      have hng : ¬ 1 < x := by omega
      have hng2 : (decide (1 < x)) = false := by simp; omega
      go_upto_region 38 with (fail)
      obtain ⟨W5, hW5⟩ : ∃ W5, W5 = wr.setCell ⟨w.heap.size + 1, 1, none⟩ (.bool (x == 1)) := ⟨_, rfl⟩
      rw [← hW5]
      have HB5 : Below w.heap.size w W5 := by rw [hW5]; exact below_set HB4 (by simp) _
      have hz5 : w.heap.size + 1 < W5.heap.size := by rw [hW5]; simpa using hz4
      have xr5 : Box W5 w.heap.size #[.int .i64 0, .bool false, .int .i64 0, .string ⟨#[]⟩, .slice none 0 0] := by rw [hW5]; exact xr4.off _ _ (by simp)
      have xv5 : Box W5 (w.heap.size + 1) #[.int .i64 1, .bool (x == 1), .int .i64 0, .string ⟨#[]⟩, .slice none 0 0] := by rw [hW5]; exact xv4.put 1 _
      have hbr5 := xr5.cells
      have hbv5 := xv5.cells
      have hfr5 := xr5.free
      have hfv5 := xv5.free
      clear hW5 xr4 xv4 hbr4 hbv4 hfr4 hfv4 HB4 hz4
      have hRt : ∀ W, Below w.heap.size w W → Calls Tryd.prog 22 #[.agg #[.int .i64 1, .bool (x == 1), .int .i64 0, .string ⟨#[]⟩, .slice none 0 0]] W fun e w' => e = .returned (.bool true) ∧ Below W.heap.size W w' := fun W hW => by
        have h := right_any 1 0 (x == 1) ⟨#[]⟩ none [] 0 W ⟨by decide, fun h => absurd h (by decide)⟩
        exact h
      go_wp2_with (go_at_call 22; refine (hRt _ HB5).mono ?_)
      first
        | (intro e W6 he hb6; subst he)
        | rintro e W6 ⟨rfl, hb6⟩
      have HB6 := below_then HB5 hb6
      have hz6 : w.heap.size + 1 < W6.heap.size := by have := hb6.size; omega
      have xr6 := xr5.kept hb6
      have xv6 := xv5.kept hb6
      have hbr6 := xr6.cells
      have hbv6 := xv6.cells
      have hfr6 := xr6.free
      have hfv6 := xv6.free
      clear hb6 xr5 xv5 hbr5 hbv5 hfr5 hfv5 HB5 hz5
      have hnw : RowKit.wrap64 ((m : Int) - ((m1 - 1 : Nat) : Int)) = (i : Int) + 2 := by
        have := HNX.out
        rw [show (m : Int) - ((m1 - 1 : Nat) : Int) = (i : Int) + 2 by omega]
        unfold RowKit.wrap64
        omega
      go_wp2
      obtain ⟨W7, hW7⟩ : ∃ W7, W7 = (((((W6.setCell ⟨w.heap.size, 0, none⟩ (.int .i64 1)).setCell ⟨w.heap.size, 1, none⟩ (.bool (x == 1))).setCell ⟨w.heap.size, 2, none⟩ (.int .i64 0)).setCell ⟨w.heap.size, 3, none⟩ (.string ⟨#[]⟩)).setCell ⟨w.heap.size, 4, none⟩ (.slice none 0 0)) := ⟨_, rfl⟩
      rw [← hW7]
      have HB7 : Below w.heap.size w W7 := by rw [hW7]; exact below_set (below_set (below_set (below_set (below_set HB6 (by simp) _) (by simp) _) (by simp) _) (by simp) _) (by simp) _
      have xr7 : Box W7 w.heap.size #[.int .i64 1, .bool (x == 1), .int .i64 0, .string ⟨#[]⟩, .slice none 0 0] := by rw [hW7]; exact ((((xr6.put 0 _).put 1 _).put 2 _).put 3 _).put 4 _
      rw [Exit.noGoto_ret]
      (try subst hyy)
      (try subst hxx)
      refine bodyPost_ret (results_c3 _ rfl rfl (box_load xr7 rfl rfl rfl rfl rfl)) rfl ?_
      first
        | exact ⟨rfl, HB7⟩
        | exact ⟨congrArg (fun z => Ending.returned (Value.tuple #[_, Value.int .i64 z, Value.int .i64 0])) hnw, HB7⟩

set_option maxRecDepth 100000 in
set_option maxHeartbeats 3200000 in
theorem dec_2 (A : Option Addr) (bs : List Int) (c : Nat) (i : Nat) (w : World) (hr : ReadsB w A bs) (hi : i < bs.length) (hc : bs.length ≤ c) (hbt : ∀ x ∈ bs, 0 ≤ x ∧ x < 256) (hk : bs.getD i 0 = 2) (hs : 8 ≤ bs.length - (i + 1)) :
    Calls Tryd.prog 36 #[.slice A bs.length c, .int .i64 (i : Int)] w fun e w' => e = .returned (.tuple #[.agg #[.int .i64 2, .bool false, .int .i64 (sgn (beI ((bs.drop (i + 1)).take 8))), .string ⟨#[]⟩, .slice none 0 0], .int .i64 ((i : Int) + 9), .int .i64 0]) ∧ Below w.heap.size w w' := by
  obtain ⟨ad, rfl, hcell⟩ := hr.2 (by omega)
  have hci : ∀ W, Below w.heap.size w W → W.cell? (ad.add i) = some (.int .u8 2) := fun W hW => by
    obtain ⟨ad', e, h⟩ := (hr.below hW).2 (by omega)
    cases e
    rw [h i hi, hk]
  have hmx := hr.1
  have hrd := hr.drop c (i + 1) hc
  obtain ⟨m, hm⟩ : ∃ m, m = bs.length := ⟨_, rfl⟩
  have hlr : (bs.drop (i + 1)).length = m - (i + 1) := by rw [List.length_drop, hm]
  (try rw [← hm] at hs)
  rw [← hm] at hi hc hmx ⊢
  have hsl : ∀ W, (Instr.slice 30 (.slice (some ad) m c) (some (.int .i64 ((i : Int) + 1))) none none).run Tryd.prog W = .ok (.slice (cutA (some ad) c (i + 1)) (m - (i + 1)) (c - (i + 1))) W := fun W => slice_from W (some ad) m c (i + 1) (by omega) (by omega)
  generalize cutA (some ad) c (i + 1) = Q at hsl hrd
  have hrs : ∀ x ∈ bs.drop (i + 1), 0 ≤ x ∧ x < 256 := fun x hx => hbt x (List.mem_of_mem_drop hx)
  first
    | generalize bs.drop (i + 1) = rs at hlr hrd hrs hn ⊢
    | generalize bs.drop (i + 1) = rs at hlr hrd hrs ⊢
  have hii : (i : Int) < (m : Int) := by omega
  have hi0 : (0 : Int) ≤ (i : Int) := by omega
  have HM := Aside0.mk hm
  have HR := Aside0.mk hr
  have HRD := Aside0.mk hrd
  have HLR := Aside0.mk hlr
  have HCI := Aside0.mk hci
  clear hm hr hk hcell hrd hlr hci hbt
  go_enter Tryd.func36, Tryd.ntmps36
  go_wp2
  go_step3
  go_upto_region 6 with (fail)
  obtain ⟨W2, hW2⟩ : ∃ W2, W2 = (w.alloc (.cells #[.int .i64 0, .bool false, .int .i64 0, .string ⟨#[]⟩, .slice none 0 0] 25)).alloc (.cells #[.int .i64 0, .bool false, .int .i64 0, .string ⟨#[]⟩, .slice none 0 0] 25) := ⟨_, rfl⟩
  rw [← hW2]
  have HB2 : Below w.heap.size w W2 := by rw [hW2]; exact below_more (below_more (Below.refl _ _) _) _
  have hz2 : w.heap.size + 1 < W2.heap.size := by rw [hW2]; simp
  have xr2 : Box W2 w.heap.size #[.int .i64 0, .bool false, .int .i64 0, .string ⟨#[]⟩, .slice none 0 0] := by rw [hW2]; exact (Box.new w _).more _
  have xv2 : Box W2 (w.heap.size + 1) #[.int .i64 0, .bool false, .int .i64 0, .string ⟨#[]⟩, .slice none 0 0] := by rw [hW2]; have h := Box.new (w.alloc (.cells #[.int .i64 0, .bool false, .int .i64 0, .string ⟨#[]⟩, .slice none 0 0] 25)) #[.int .i64 0, .bool false, .int .i64 0, .string ⟨#[]⟩, .slice none 0 0]; simpa using h
  have hbr2 := xr2.cells
  have hbv2 := xv2.cells
  have hfr2 := xr2.free
  have hfv2 := xv2.free
  have hcx := HCI.out W2 HB2
  clear hW2
  go_upto_region 8 with (fail)
  obtain ⟨W3, hW3⟩ : ∃ W3, W3 = W2.setCell ⟨w.heap.size + 1, 0, none⟩ (.int .i64 2) := ⟨_, rfl⟩
  rw [← hW3]
  have HB3 : Below w.heap.size w W3 := by rw [hW3]; exact below_set HB2 (by simp) _
  have hz3 : w.heap.size + 1 < W3.heap.size := by rw [hW3]; simpa using hz2
  have xr3 : Box W3 w.heap.size #[.int .i64 0, .bool false, .int .i64 0, .string ⟨#[]⟩, .slice none 0 0] := by rw [hW3]; exact xr2.off _ _ (by simp)
  have xv3 : Box W3 (w.heap.size + 1) #[.int .i64 2, .bool false, .int .i64 0, .string ⟨#[]⟩, .slice none 0 0] := by rw [hW3]; exact xv2.put 0 _
  have hbr3 := xr3.cells
  have hbv3 := xv3.cells
  have hfr3 := xr3.free
  have hfv3 := xv3.free
  clear hW3 xr2 xv2 hbr2 hbv2 hfr2 hfv2 HB2 hz2
  obtain ⟨m1, hm1⟩ : ∃ m1, m1 = m - (i + 1) := ⟨_, rfl⟩
  obtain ⟨c1, hc1⟩ : ∃ c1, c1 = c - (i + 1) := ⟨_, rfl⟩
  rw [← hm1, ← hc1]
  have hmc1 : m1 ≤ c1 := by omega
  have HLR2 : rs.length = m1 := by rw [HLR.out, hm1]
  (try rw [← hm1] at hs)
  have hnx : (m : Int) - (m1 : Int) = (i : Int) + 1 := by omega
  have HNX := Aside0.mk hnx
  clear hnx hm1 hc1 hsl hcx
  have hst : ∀ W, (Instr.slice 30 (.slice Q m1 c1) none (some (.int .i64 8)) none).run Tryd.prog W = .ok (.slice Q 8 c1) W := fun W => slice_to W Q m1 c1 8 (by omega) (by omega)
  have hsf : ∀ W, (Instr.slice 30 (.slice Q m1 c1) (some (.int .i64 8)) none none).run Tryd.prog W = .ok (.slice (cutA Q c1 8) (m1 - 8) (c1 - 8)) W := fun W => slice_from W Q m1 c1 8 (by omega) (by omega)
  have HR2 := (HRD.out.drop c1 8 (by omega))
  generalize cutA Q c1 8 = Q2 at hsf HR2
  have hmin : min (2 : Int) 7 = 2 := by decide
  go_upto_region 11 with (fail)
  obtain ⟨W4, hW4⟩ : ∃ W4, W4 = W3.alloc (.cells #[.int .i64 0, .int .i64 1, .int .i64 8, .int .i64 4, .int .i64 8, .int .i64 8, .int .i64 1, .int .i64 0] 3) := ⟨_, rfl⟩
  rw [← hW4]
  have HB4 : Below w.heap.size w W4 := by rw [hW4]; exact below_more HB3 _
  have hz4 : w.heap.size + 1 < W4.heap.size := by rw [hW4]; simp; omega
  have xr4 : Box W4 w.heap.size #[.int .i64 0, .bool false, .int .i64 0, .string ⟨#[]⟩, .slice none 0 0] := by rw [hW4]; exact xr3.more _
  have xv4 : Box W4 (w.heap.size + 1) #[.int .i64 2, .bool false, .int .i64 0, .string ⟨#[]⟩, .slice none 0 0] := by rw [hW4]; exact xv3.more _
  have hbr4 := xr4.cells
  have hbv4 := xv4.cells
  have hfr4 := xr4.free
  have hfv4 := xv4.free
  clear hW4 xr3 xv3 hbr3 hbv3 hfr3 hfv3 HB3 hz3 hmin hst
  obtain ⟨ae, rfl⟩ : ∃ ae, Q = some ae := (HRD.out.2 (by omega)).imp fun _ h => h.1
  have HRS := Aside0.mk hrs
  clear hrs
  go_loopg [9, 53] 9 (fun gg s9 s53 wr => ∃ j : Nat, j ≤ 8 ∧ 8 < gg + j ∧ s53 = .int .i64 j ∧ s9 = .int .u64 (beI (rs.take j)) ∧ wr = W4)
  case atStart => exact ⟨0, by omega, by omega, rfl, rfl, rfl⟩
  case round =>
    obtain ⟨j, hj, hg, rfl, rfl, rfl⟩ := hrel
    by_cases hlt : j < 8
    · have hlti : (j : Int) < 8 := by omega
      have hj0 : (0 : Int) ≤ (j : Int) := by omega
      have hcell : wr.cell? (ae.add j) = some (.int .u8 (rs.getD j 0)) := by
        obtain ⟨ae', e, h⟩ := (HRD.out.below HB4).2 (by omega)
        cases e
        exact h j (by omega)
      have hcb := HRS.out (rs.getD j 0) (by rw [List.getD_eq_getElem?_getD, List.getElem?_eq_getElem (by omega)]; exact List.getElem_mem _)
      have hbe := beI_take rs j (by omega)
      have hxb := beI_bound j (rs.take j) (by rw [List.length_take]; omega) (fun x hx => HRS.out x (List.mem_of_mem_take hx))
      have hx7 : (256 : Int) ^ j ≤ 72057594037927936 := by
        have : j = 0 ∨ j = 1 ∨ j = 2 ∨ j = 3 ∨ j = 4 ∨ j = 5 ∨ j = 6 ∨ j = 7 := by omega
        rcases this with rfl | rfl | rfl | rfl | rfl | rfl | rfl | rfl <;> decide
      generalize rs.getD j 0 = y at hcell hcb hbe
      generalize beI (rs.take j) = x at hbe hxb
      have hor := or_byte64 x y hxb.1 (by omega) hcb.1 hcb.2
      have HBE := Aside0.mk hbe
      clear hbe
      go_wp2
      go_roundg (gk - 1)
      case measure => omega
      case rel => exact ⟨j + 1, by omega, by omega, by go_num, by rw [HBE.out], rfl⟩
    · obtain rfl : j = 8 := by omega
      clear hlt hj hg
      have hn0 := beI_bound 8 (rs.take 8) (by rw [List.length_take]; omega) (fun x hx => HRS.out x (List.mem_of_mem_take hx))
      have hcv : sgn (beI (rs.take 8)) = IntKind.i64.wrap (beI (rs.take 8)) := rfl
      generalize hxx : beI (rs.take 8) = x at hn0 hcv 
      have hcw : ∀ W, (convert 43 2 (.int .u64 x)).run Tryd.prog W = .ok (.int .i64 (sgn x)) W := fun W => by
        go_simp
        first | done | exact hcv.symm
      clear hcv
      generalize hyy : sgn x = y at hcw 
      go_upto_region 38 with (fail)
      obtain ⟨W5, hW5⟩ : ∃ W5, W5 = wr.setCell ⟨w.heap.size + 1, 2, none⟩ (.int .i64 y) := ⟨_, rfl⟩
      rw [← hW5]
      have HB5 : Below w.heap.size w W5 := by rw [hW5]; exact below_set HB4 (by simp) _
      have hz5 : w.heap.size + 1 < W5.heap.size := by rw [hW5]; simpa using hz4
      have xr5 : Box W5 w.heap.size #[.int .i64 0, .bool false, .int .i64 0, .string ⟨#[]⟩, .slice none 0 0] := by rw [hW5]; exact xr4.off _ _ (by simp)
      have xv5 : Box W5 (w.heap.size + 1) #[.int .i64 2, .bool false, .int .i64 y, .string ⟨#[]⟩, .slice none 0 0] := by rw [hW5]; exact xv4.put 2 _
      have hbr5 := xr5.cells
      have hbv5 := xv5.cells
      have hfr5 := xr5.free
      have hfv5 := xv5.free
      clear hW5 xr4 xv4 hbr4 hbv4 hfr4 hfv4 HB4 hz4
      have hRt : ∀ W, Below w.heap.size w W → Calls Tryd.prog 22 #[.agg #[.int .i64 2, .bool false, .int .i64 y, .string ⟨#[]⟩, .slice none 0 0]] W fun e w' => e = .returned (.bool true) ∧ Below W.heap.size W w' := fun W hW => by
        have h := right_any 2 y false ⟨#[]⟩ none [] 0 W ⟨by decide, fun h => absurd h (by decide)⟩
        rw [show rightB 2 false y ⟨#[]⟩ [] = true from by simp [rightB]; rfl] at h
        exact h
      go_wp2_with (go_at_call 22; refine (hRt _ HB5).mono ?_)
      first
        | (intro e W6 he hb6; subst he)
        | rintro e W6 ⟨rfl, hb6⟩
      have HB6 := below_then HB5 hb6
      have hz6 : w.heap.size + 1 < W6.heap.size := by have := hb6.size; omega
      have xr6 := xr5.kept hb6
      have xv6 := xv5.kept hb6
      have hbr6 := xr6.cells
      have hbv6 := xv6.cells
      have hfr6 := xr6.free
      have hfv6 := xv6.free
      clear hb6 xr5 xv5 hbr5 hbv5 hfr5 hfv5 HB5 hz5
      have hnw : RowKit.wrap64 ((m : Int) - ((m1 - 8 : Nat) : Int)) = (i : Int) + 9 := by
        have := HNX.out
        rw [show (m : Int) - ((m1 - 8 : Nat) : Int) = (i : Int) + 9 by omega]
        unfold RowKit.wrap64
        omega
      go_wp2
      obtain ⟨W7, hW7⟩ : ∃ W7, W7 = (((((W6.setCell ⟨w.heap.size, 0, none⟩ (.int .i64 2)).setCell ⟨w.heap.size, 1, none⟩ (.bool false)).setCell ⟨w.heap.size, 2, none⟩ (.int .i64 y)).setCell ⟨w.heap.size, 3, none⟩ (.string ⟨#[]⟩)).setCell ⟨w.heap.size, 4, none⟩ (.slice none 0 0)) := ⟨_, rfl⟩
      rw [← hW7]
      have HB7 : Below w.heap.size w W7 := by rw [hW7]; exact below_set (below_set (below_set (below_set (below_set HB6 (by simp) _) (by simp) _) (by simp) _) (by simp) _) (by simp) _
      have xr7 : Box W7 w.heap.size #[.int .i64 2, .bool false, .int .i64 y, .string ⟨#[]⟩, .slice none 0 0] := by rw [hW7]; exact ((((xr6.put 0 _).put 1 _).put 2 _).put 3 _).put 4 _
      rw [Exit.noGoto_ret]
      (try subst hyy)
      (try subst hxx)
      refine bodyPost_ret (results_c3 _ rfl rfl (box_load xr7 rfl rfl rfl rfl rfl)) rfl ?_
      first
        | exact ⟨rfl, HB7⟩
        | exact ⟨congrArg (fun z => Ending.returned (Value.tuple #[_, Value.int .i64 z, Value.int .i64 0])) hnw, HB7⟩

set_option maxRecDepth 100000 in
set_option maxHeartbeats 3200000 in
theorem dec_4 (A : Option Addr) (bs : List Int) (c : Nat) (i : Nat) (w : World) (hr : ReadsB w A bs) (hi : i < bs.length) (hc : bs.length ≤ c) (hbt : ∀ x ∈ bs, 0 ≤ x ∧ x < 256) (hk : bs.getD i 0 = 4) (hs : 8 ≤ bs.length - (i + 1)) (hn : idB (sgn (beI ((bs.drop (i + 1)).take 8))) = true) :
    Calls Tryd.prog 36 #[.slice A bs.length c, .int .i64 (i : Int)] w fun e w' => e = .returned (.tuple #[.agg #[.int .i64 4, .bool false, .int .i64 (sgn (beI ((bs.drop (i + 1)).take 8))), .string ⟨#[]⟩, .slice none 0 0], .int .i64 ((i : Int) + 9), .int .i64 0]) ∧ Below w.heap.size w w' := by
  obtain ⟨ad, rfl, hcell⟩ := hr.2 (by omega)
  have hci : ∀ W, Below w.heap.size w W → W.cell? (ad.add i) = some (.int .u8 4) := fun W hW => by
    obtain ⟨ad', e, h⟩ := (hr.below hW).2 (by omega)
    cases e
    rw [h i hi, hk]
  have hmx := hr.1
  have hrd := hr.drop c (i + 1) hc
  obtain ⟨m, hm⟩ : ∃ m, m = bs.length := ⟨_, rfl⟩
  have hlr : (bs.drop (i + 1)).length = m - (i + 1) := by rw [List.length_drop, hm]
  (try rw [← hm] at hs)
  rw [← hm] at hi hc hmx ⊢
  have hsl : ∀ W, (Instr.slice 30 (.slice (some ad) m c) (some (.int .i64 ((i : Int) + 1))) none none).run Tryd.prog W = .ok (.slice (cutA (some ad) c (i + 1)) (m - (i + 1)) (c - (i + 1))) W := fun W => slice_from W (some ad) m c (i + 1) (by omega) (by omega)
  generalize cutA (some ad) c (i + 1) = Q at hsl hrd
  have hrs : ∀ x ∈ bs.drop (i + 1), 0 ≤ x ∧ x < 256 := fun x hx => hbt x (List.mem_of_mem_drop hx)
  first
    | generalize bs.drop (i + 1) = rs at hlr hrd hrs hn ⊢
    | generalize bs.drop (i + 1) = rs at hlr hrd hrs ⊢
  have hii : (i : Int) < (m : Int) := by omega
  have hi0 : (0 : Int) ≤ (i : Int) := by omega
  have HM := Aside0.mk hm
  have HR := Aside0.mk hr
  have HRD := Aside0.mk hrd
  have HLR := Aside0.mk hlr
  have HCI := Aside0.mk hci
  clear hm hr hk hcell hrd hlr hci hbt
  go_enter Tryd.func36, Tryd.ntmps36
  go_wp2
  go_step3
  go_upto_region 6 with (fail)
  obtain ⟨W2, hW2⟩ : ∃ W2, W2 = (w.alloc (.cells #[.int .i64 0, .bool false, .int .i64 0, .string ⟨#[]⟩, .slice none 0 0] 25)).alloc (.cells #[.int .i64 0, .bool false, .int .i64 0, .string ⟨#[]⟩, .slice none 0 0] 25) := ⟨_, rfl⟩
  rw [← hW2]
  have HB2 : Below w.heap.size w W2 := by rw [hW2]; exact below_more (below_more (Below.refl _ _) _) _
  have hz2 : w.heap.size + 1 < W2.heap.size := by rw [hW2]; simp
  have xr2 : Box W2 w.heap.size #[.int .i64 0, .bool false, .int .i64 0, .string ⟨#[]⟩, .slice none 0 0] := by rw [hW2]; exact (Box.new w _).more _
  have xv2 : Box W2 (w.heap.size + 1) #[.int .i64 0, .bool false, .int .i64 0, .string ⟨#[]⟩, .slice none 0 0] := by rw [hW2]; have h := Box.new (w.alloc (.cells #[.int .i64 0, .bool false, .int .i64 0, .string ⟨#[]⟩, .slice none 0 0] 25)) #[.int .i64 0, .bool false, .int .i64 0, .string ⟨#[]⟩, .slice none 0 0]; simpa using h
  have hbr2 := xr2.cells
  have hbv2 := xv2.cells
  have hfr2 := xr2.free
  have hfv2 := xv2.free
  have hcx := HCI.out W2 HB2
  clear hW2
  go_upto_region 8 with (fail)
  obtain ⟨W3, hW3⟩ : ∃ W3, W3 = W2.setCell ⟨w.heap.size + 1, 0, none⟩ (.int .i64 4) := ⟨_, rfl⟩
  rw [← hW3]
  have HB3 : Below w.heap.size w W3 := by rw [hW3]; exact below_set HB2 (by simp) _
  have hz3 : w.heap.size + 1 < W3.heap.size := by rw [hW3]; simpa using hz2
  have xr3 : Box W3 w.heap.size #[.int .i64 0, .bool false, .int .i64 0, .string ⟨#[]⟩, .slice none 0 0] := by rw [hW3]; exact xr2.off _ _ (by simp)
  have xv3 : Box W3 (w.heap.size + 1) #[.int .i64 4, .bool false, .int .i64 0, .string ⟨#[]⟩, .slice none 0 0] := by rw [hW3]; exact xv2.put 0 _
  have hbr3 := xr3.cells
  have hbv3 := xv3.cells
  have hfr3 := xr3.free
  have hfv3 := xv3.free
  clear hW3 xr2 xv2 hbr2 hbv2 hfr2 hfv2 HB2 hz2
  obtain ⟨m1, hm1⟩ : ∃ m1, m1 = m - (i + 1) := ⟨_, rfl⟩
  obtain ⟨c1, hc1⟩ : ∃ c1, c1 = c - (i + 1) := ⟨_, rfl⟩
  rw [← hm1, ← hc1]
  have hmc1 : m1 ≤ c1 := by omega
  have HLR2 : rs.length = m1 := by rw [HLR.out, hm1]
  (try rw [← hm1] at hs)
  have hnx : (m : Int) - (m1 : Int) = (i : Int) + 1 := by omega
  have HNX := Aside0.mk hnx
  clear hnx hm1 hc1 hsl hcx
  have hst : ∀ W, (Instr.slice 30 (.slice Q m1 c1) none (some (.int .i64 8)) none).run Tryd.prog W = .ok (.slice Q 8 c1) W := fun W => slice_to W Q m1 c1 8 (by omega) (by omega)
  have hsf : ∀ W, (Instr.slice 30 (.slice Q m1 c1) (some (.int .i64 8)) none none).run Tryd.prog W = .ok (.slice (cutA Q c1 8) (m1 - 8) (c1 - 8)) W := fun W => slice_from W Q m1 c1 8 (by omega) (by omega)
  have HR2 := (HRD.out.drop c1 8 (by omega))
  generalize cutA Q c1 8 = Q2 at hsf HR2
  have hmin : min (4 : Int) 7 = 4 := by decide
  go_upto_region 11 with (fail)
  obtain ⟨W4, hW4⟩ : ∃ W4, W4 = W3.alloc (.cells #[.int .i64 0, .int .i64 1, .int .i64 8, .int .i64 4, .int .i64 8, .int .i64 8, .int .i64 1, .int .i64 0] 3) := ⟨_, rfl⟩
  rw [← hW4]
  have HB4 : Below w.heap.size w W4 := by rw [hW4]; exact below_more HB3 _
  have hz4 : w.heap.size + 1 < W4.heap.size := by rw [hW4]; simp; omega
  have xr4 : Box W4 w.heap.size #[.int .i64 0, .bool false, .int .i64 0, .string ⟨#[]⟩, .slice none 0 0] := by rw [hW4]; exact xr3.more _
  have xv4 : Box W4 (w.heap.size + 1) #[.int .i64 4, .bool false, .int .i64 0, .string ⟨#[]⟩, .slice none 0 0] := by rw [hW4]; exact xv3.more _
  have hbr4 := xr4.cells
  have hbv4 := xv4.cells
  have hfr4 := xr4.free
  have hfv4 := xv4.free
  clear hW4 xr3 xv3 hbr3 hbv3 hfr3 hfv3 HB3 hz3 hmin hst
  obtain ⟨ae, rfl⟩ : ∃ ae, Q = some ae := (HRD.out.2 (by omega)).imp fun _ h => h.1
  have HRS := Aside0.mk hrs
  clear hrs
  go_loopg [9, 53] 9 (fun gg s9 s53 wr => ∃ j : Nat, j ≤ 8 ∧ 8 < gg + j ∧ s53 = .int .i64 j ∧ s9 = .int .u64 (beI (rs.take j)) ∧ wr = W4)
  case atStart => exact ⟨0, by omega, by omega, rfl, rfl, rfl⟩
  case round =>
    obtain ⟨j, hj, hg, rfl, rfl, rfl⟩ := hrel
    by_cases hlt : j < 8
    · have hlti : (j : Int) < 8 := by omega
      have hj0 : (0 : Int) ≤ (j : Int) := by omega
      have hcell : wr.cell? (ae.add j) = some (.int .u8 (rs.getD j 0)) := by
        obtain ⟨ae', e, h⟩ := (HRD.out.below HB4).2 (by omega)
        cases e
        exact h j (by omega)
      have hcb := HRS.out (rs.getD j 0) (by rw [List.getD_eq_getElem?_getD, List.getElem?_eq_getElem (by omega)]; exact List.getElem_mem _)
      have hbe := beI_take rs j (by omega)
      have hxb := beI_bound j (rs.take j) (by rw [List.length_take]; omega) (fun x hx => HRS.out x (List.mem_of_mem_take hx))
      have hx7 : (256 : Int) ^ j ≤ 72057594037927936 := by
        have : j = 0 ∨ j = 1 ∨ j = 2 ∨ j = 3 ∨ j = 4 ∨ j = 5 ∨ j = 6 ∨ j = 7 := by omega
        rcases this with rfl | rfl | rfl | rfl | rfl | rfl | rfl | rfl <;> decide
      generalize rs.getD j 0 = y at hcell hcb hbe
      generalize beI (rs.take j) = x at hbe hxb
      have hor := or_byte64 x y hxb.1 (by omega) hcb.1 hcb.2
      have HBE := Aside0.mk hbe
      clear hbe
      go_wp2
      go_roundg (gk - 1)
      case measure => omega
      case rel => exact ⟨j + 1, by omega, by omega, by go_num, by rw [HBE.out], rfl⟩
    · obtain rfl : j = 8 := by omega
      clear hlt hj hg
      have hn0 := beI_bound 8 (rs.take 8) (by rw [List.length_take]; omega) (fun x hx => HRS.out x (List.mem_of_mem_take hx))
      have hcv : sgn (beI (rs.take 8)) = IntKind.i64.wrap (beI (rs.take 8)) := rfl
      generalize hxx : beI (rs.take 8) = x at hn0 hcv hn 
      have hcw : ∀ W, (convert 43 2 (.int .u64 x)).run Tryd.prog W = .ok (.int .i64 (sgn x)) W := fun W => by
        go_simp
        first | done | exact hcv.symm
      clear hcv
      generalize hyy : sgn x = y at hcw hn 
      go_upto_region 38 with (fail)
      obtain ⟨W5, hW5⟩ : ∃ W5, W5 = wr.setCell ⟨w.heap.size + 1, 2, none⟩ (.int .i64 y) := ⟨_, rfl⟩
      rw [← hW5]
      have HB5 : Below w.heap.size w W5 := by rw [hW5]; exact below_set HB4 (by simp) _
      have hz5 : w.heap.size + 1 < W5.heap.size := by rw [hW5]; simpa using hz4
      have xr5 : Box W5 w.heap.size #[.int .i64 0, .bool false, .int .i64 0, .string ⟨#[]⟩, .slice none 0 0] := by rw [hW5]; exact xr4.off _ _ (by simp)
      have xv5 : Box W5 (w.heap.size + 1) #[.int .i64 4, .bool false, .int .i64 y, .string ⟨#[]⟩, .slice none 0 0] := by rw [hW5]; exact xv4.put 2 _
      have hbr5 := xr5.cells
      have hbv5 := xv5.cells
      have hfr5 := xr5.free
      have hfv5 := xv5.free
      clear hW5 xr4 xv4 hbr4 hbv4 hfr4 hfv4 HB4 hz4
      have hRt : ∀ W, Below w.heap.size w W → Calls Tryd.prog 22 #[.agg #[.int .i64 4, .bool false, .int .i64 y, .string ⟨#[]⟩, .slice none 0 0]] W fun e w' => e = .returned (.bool true) ∧ Below W.heap.size W w' := fun W hW => by
        have h := right_any 4 y false ⟨#[]⟩ none [] 0 W ⟨by decide, fun h => absurd h (by decide)⟩
        rw [show rightB 4 false y ⟨#[]⟩ [] = true from by simp [rightB, hn]; rfl] at h
        exact h
      go_wp2_with (go_at_call 22; refine (hRt _ HB5).mono ?_)
      first
        | (intro e W6 he hb6; subst he)
        | rintro e W6 ⟨rfl, hb6⟩
      have HB6 := below_then HB5 hb6
      have hz6 : w.heap.size + 1 < W6.heap.size := by have := hb6.size; omega
      have xr6 := xr5.kept hb6
      have xv6 := xv5.kept hb6
      have hbr6 := xr6.cells
      have hbv6 := xv6.cells
      have hfr6 := xr6.free
      have hfv6 := xv6.free
      clear hb6 xr5 xv5 hbr5 hbv5 hfr5 hfv5 HB5 hz5
      have hnw : RowKit.wrap64 ((m : Int) - ((m1 - 8 : Nat) : Int)) = (i : Int) + 9 := by
        have := HNX.out
        rw [show (m : Int) - ((m1 - 8 : Nat) : Int) = (i : Int) + 9 by omega]
        unfold RowKit.wrap64
        omega
      go_wp2
      obtain ⟨W7, hW7⟩ : ∃ W7, W7 = (((((W6.setCell ⟨w.heap.size, 0, none⟩ (.int .i64 4)).setCell ⟨w.heap.size, 1, none⟩ (.bool false)).setCell ⟨w.heap.size, 2, none⟩ (.int .i64 y)).setCell ⟨w.heap.size, 3, none⟩ (.string ⟨#[]⟩)).setCell ⟨w.heap.size, 4, none⟩ (.slice none 0 0)) := ⟨_, rfl⟩
      rw [← hW7]
      have HB7 : Below w.heap.size w W7 := by rw [hW7]; exact below_set (below_set (below_set (below_set (below_set HB6 (by simp) _) (by simp) _) (by simp) _) (by simp) _) (by simp) _
      have xr7 : Box W7 w.heap.size #[.int .i64 4, .bool false, .int .i64 y, .string ⟨#[]⟩, .slice none 0 0] := by rw [hW7]; exact ((((xr6.put 0 _).put 1 _).put 2 _).put 3 _).put 4 _
      rw [Exit.noGoto_ret]
      (try subst hyy)
      (try subst hxx)
      refine bodyPost_ret (results_c3 _ rfl rfl (box_load xr7 rfl rfl rfl rfl rfl)) rfl ?_
      first
        | exact ⟨rfl, HB7⟩
        | exact ⟨congrArg (fun z => Ending.returned (Value.tuple #[_, Value.int .i64 z, Value.int .i64 0])) hnw, HB7⟩

set_option maxRecDepth 100000 in
set_option maxHeartbeats 3200000 in
theorem dec_5 (A : Option Addr) (bs : List Int) (c : Nat) (i : Nat) (w : World) (hr : ReadsB w A bs) (hi : i < bs.length) (hc : bs.length ≤ c) (hbt : ∀ x ∈ bs, 0 ≤ x ∧ x < 256) (hk : bs.getD i 0 = 5) (hs : 8 ≤ bs.length - (i + 1)) (hn : idB (sgn (beI ((bs.drop (i + 1)).take 8))) = true) :
    Calls Tryd.prog 36 #[.slice A bs.length c, .int .i64 (i : Int)] w fun e w' => e = .returned (.tuple #[.agg #[.int .i64 5, .bool false, .int .i64 (sgn (beI ((bs.drop (i + 1)).take 8))), .string ⟨#[]⟩, .slice none 0 0], .int .i64 ((i : Int) + 9), .int .i64 0]) ∧ Below w.heap.size w w' := by
  obtain ⟨ad, rfl, hcell⟩ := hr.2 (by omega)
  have hci : ∀ W, Below w.heap.size w W → W.cell? (ad.add i) = some (.int .u8 5) := fun W hW => by
    obtain ⟨ad', e, h⟩ := (hr.below hW).2 (by omega)
    cases e
    rw [h i hi, hk]
  have hmx := hr.1
  have hrd := hr.drop c (i + 1) hc
  obtain ⟨m, hm⟩ : ∃ m, m = bs.length := ⟨_, rfl⟩
  have hlr : (bs.drop (i + 1)).length = m - (i + 1) := by rw [List.length_drop, hm]
  (try rw [← hm] at hs)
  rw [← hm] at hi hc hmx ⊢
  have hsl : ∀ W, (Instr.slice 30 (.slice (some ad) m c) (some (.int .i64 ((i : Int) + 1))) none none).run Tryd.prog W = .ok (.slice (cutA (some ad) c (i + 1)) (m - (i + 1)) (c - (i + 1))) W := fun W => slice_from W (some ad) m c (i + 1) (by omega) (by omega)
  generalize cutA (some ad) c (i + 1) = Q at hsl hrd
  have hrs : ∀ x ∈ bs.drop (i + 1), 0 ≤ x ∧ x < 256 := fun x hx => hbt x (List.mem_of_mem_drop hx)
  first
    | generalize bs.drop (i + 1) = rs at hlr hrd hrs hn ⊢
    | generalize bs.drop (i + 1) = rs at hlr hrd hrs ⊢
  have hii : (i : Int) < (m : Int) := by omega
  have hi0 : (0 : Int) ≤ (i : Int) := by omega
  have HM := Aside0.mk hm
  have HR := Aside0.mk hr
  have HRD := Aside0.mk hrd
  have HLR := Aside0.mk hlr
  have HCI := Aside0.mk hci
  clear hm hr hk hcell hrd hlr hci hbt
  go_enter Tryd.func36, Tryd.ntmps36
  go_wp2
  go_step3
  go_upto_region 6 with (fail)
  obtain ⟨W2, hW2⟩ : ∃ W2, W2 = (w.alloc (.cells #[.int .i64 0, .bool false, .int .i64 0, .string ⟨#[]⟩, .slice none 0 0] 25)).alloc (.cells #[.int .i64 0, .bool false, .int .i64 0, .string ⟨#[]⟩, .slice none 0 0] 25) := ⟨_, rfl⟩
  rw [← hW2]
  have HB2 : Below w.heap.size w W2 := by rw [hW2]; exact below_more (below_more (Below.refl _ _) _) _
  have hz2 : w.heap.size + 1 < W2.heap.size := by rw [hW2]; simp
  have xr2 : Box W2 w.heap.size #[.int .i64 0, .bool false, .int .i64 0, .string ⟨#[]⟩, .slice none 0 0] := by rw [hW2]; exact (Box.new w _).more _
  have xv2 : Box W2 (w.heap.size + 1) #[.int .i64 0, .bool false, .int .i64 0, .string ⟨#[]⟩, .slice none 0 0] := by rw [hW2]; have h := Box.new (w.alloc (.cells #[.int .i64 0, .bool false, .int .i64 0, .string ⟨#[]⟩, .slice none 0 0] 25)) #[.int .i64 0, .bool false, .int .i64 0, .string ⟨#[]⟩, .slice none 0 0]; simpa using h
  have hbr2 := xr2.cells
  have hbv2 := xv2.cells
  have hfr2 := xr2.free
  have hfv2 := xv2.free
  have hcx := HCI.out W2 HB2
  clear hW2
  go_upto_region 8 with (fail)
  obtain ⟨W3, hW3⟩ : ∃ W3, W3 = W2.setCell ⟨w.heap.size + 1, 0, none⟩ (.int .i64 5) := ⟨_, rfl⟩
  rw [← hW3]
  have HB3 : Below w.heap.size w W3 := by rw [hW3]; exact below_set HB2 (by simp) _
  have hz3 : w.heap.size + 1 < W3.heap.size := by rw [hW3]; simpa using hz2
  have xr3 : Box W3 w.heap.size #[.int .i64 0, .bool false, .int .i64 0, .string ⟨#[]⟩, .slice none 0 0] := by rw [hW3]; exact xr2.off _ _ (by simp)
  have xv3 : Box W3 (w.heap.size + 1) #[.int .i64 5, .bool false, .int .i64 0, .string ⟨#[]⟩, .slice none 0 0] := by rw [hW3]; exact xv2.put 0 _
  have hbr3 := xr3.cells
  have hbv3 := xv3.cells
  have hfr3 := xr3.free
  have hfv3 := xv3.free
  clear hW3 xr2 xv2 hbr2 hbv2 hfr2 hfv2 HB2 hz2
  obtain ⟨m1, hm1⟩ : ∃ m1, m1 = m - (i + 1) := ⟨_, rfl⟩
  obtain ⟨c1, hc1⟩ : ∃ c1, c1 = c - (i + 1) := ⟨_, rfl⟩
  rw [← hm1, ← hc1]
  have hmc1 : m1 ≤ c1 := by omega
  have HLR2 : rs.length = m1 := by rw [HLR.out, hm1]
  (try rw [← hm1] at hs)
  have hnx : (m : Int) - (m1 : Int) = (i : Int) + 1 := by omega
  have HNX := Aside0.mk hnx
  clear hnx hm1 hc1 hsl hcx
  have hst : ∀ W, (Instr.slice 30 (.slice Q m1 c1) none (some (.int .i64 8)) none).run Tryd.prog W = .ok (.slice Q 8 c1) W := fun W => slice_to W Q m1 c1 8 (by omega) (by omega)
  have hsf : ∀ W, (Instr.slice 30 (.slice Q m1 c1) (some (.int .i64 8)) none none).run Tryd.prog W = .ok (.slice (cutA Q c1 8) (m1 - 8) (c1 - 8)) W := fun W => slice_from W Q m1 c1 8 (by omega) (by omega)
  have HR2 := (HRD.out.drop c1 8 (by omega))
  generalize cutA Q c1 8 = Q2 at hsf HR2
  have hmin : min (5 : Int) 7 = 5 := by decide
  go_upto_region 11 with (fail)
  obtain ⟨W4, hW4⟩ : ∃ W4, W4 = W3.alloc (.cells #[.int .i64 0, .int .i64 1, .int .i64 8, .int .i64 4, .int .i64 8, .int .i64 8, .int .i64 1, .int .i64 0] 3) := ⟨_, rfl⟩
  rw [← hW4]
  have HB4 : Below w.heap.size w W4 := by rw [hW4]; exact below_more HB3 _
  have hz4 : w.heap.size + 1 < W4.heap.size := by rw [hW4]; simp; omega
  have xr4 : Box W4 w.heap.size #[.int .i64 0, .bool false, .int .i64 0, .string ⟨#[]⟩, .slice none 0 0] := by rw [hW4]; exact xr3.more _
  have xv4 : Box W4 (w.heap.size + 1) #[.int .i64 5, .bool false, .int .i64 0, .string ⟨#[]⟩, .slice none 0 0] := by rw [hW4]; exact xv3.more _
  have hbr4 := xr4.cells
  have hbv4 := xv4.cells
  have hfr4 := xr4.free
  have hfv4 := xv4.free
  clear hW4 xr3 xv3 hbr3 hbv3 hfr3 hfv3 HB3 hz3 hmin hst
  obtain ⟨ae, rfl⟩ : ∃ ae, Q = some ae := (HRD.out.2 (by omega)).imp fun _ h => h.1
  have HRS := Aside0.mk hrs
  clear hrs
  go_loopg [9, 53] 9 (fun gg s9 s53 wr => ∃ j : Nat, j ≤ 8 ∧ 8 < gg + j ∧ s53 = .int .i64 j ∧ s9 = .int .u64 (beI (rs.take j)) ∧ wr = W4)
  case atStart => exact ⟨0, by omega, by omega, rfl, rfl, rfl⟩
  case round =>
    obtain ⟨j, hj, hg, rfl, rfl, rfl⟩ := hrel
    by_cases hlt : j < 8
    · have hlti : (j : Int) < 8 := by omega
      have hj0 : (0 : Int) ≤ (j : Int) := by omega
      have hcell : wr.cell? (ae.add j) = some (.int .u8 (rs.getD j 0)) := by
        obtain ⟨ae', e, h⟩ := (HRD.out.below HB4).2 (by omega)
        cases e
        exact h j (by omega)
      have hcb := HRS.out (rs.getD j 0) (by rw [List.getD_eq_getElem?_getD, List.getElem?_eq_getElem (by omega)]; exact List.getElem_mem _)
      have hbe := beI_take rs j (by omega)
      have hxb := beI_bound j (rs.take j) (by rw [List.length_take]; omega) (fun x hx => HRS.out x (List.mem_of_mem_take hx))
      have hx7 : (256 : Int) ^ j ≤ 72057594037927936 := by
        have : j = 0 ∨ j = 1 ∨ j = 2 ∨ j = 3 ∨ j = 4 ∨ j = 5 ∨ j = 6 ∨ j = 7 := by omega
        rcases this with rfl | rfl | rfl | rfl | rfl | rfl | rfl | rfl <;> decide
      generalize rs.getD j 0 = y at hcell hcb hbe
      generalize beI (rs.take j) = x at hbe hxb
      have hor := or_byte64 x y hxb.1 (by omega) hcb.1 hcb.2
      have HBE := Aside0.mk hbe
      clear hbe
      go_wp2
      go_roundg (gk - 1)
      case measure => omega
      case rel => exact ⟨j + 1, by omega, by omega, by go_num, by rw [HBE.out], rfl⟩
    · obtain rfl : j = 8 := by omega
      clear hlt hj hg
      have hn0 := beI_bound 8 (rs.take 8) (by rw [List.length_take]; omega) (fun x hx => HRS.out x (List.mem_of_mem_take hx))
      have hcv : sgn (beI (rs.take 8)) = IntKind.i64.wrap (beI (rs.take 8)) := rfl
      generalize hxx : beI (rs.take 8) = x at hn0 hcv hn 
      have hcw : ∀ W, (convert 43 2 (.int .u64 x)).run Tryd.prog W = .ok (.int .i64 (sgn x)) W := fun W => by
        go_simp
        first | done | exact hcv.symm
      clear hcv
      generalize hyy : sgn x = y at hcw hn 
      go_upto_region 38 with (fail)
      obtain ⟨W5, hW5⟩ : ∃ W5, W5 = wr.setCell ⟨w.heap.size + 1, 2, none⟩ (.int .i64 y) := ⟨_, rfl⟩
      rw [← hW5]
      have HB5 : Below w.heap.size w W5 := by rw [hW5]; exact below_set HB4 (by simp) _
      have hz5 : w.heap.size + 1 < W5.heap.size := by rw [hW5]; simpa using hz4
      have xr5 : Box W5 w.heap.size #[.int .i64 0, .bool false, .int .i64 0, .string ⟨#[]⟩, .slice none 0 0] := by rw [hW5]; exact xr4.off _ _ (by simp)
      have xv5 : Box W5 (w.heap.size + 1) #[.int .i64 5, .bool false, .int .i64 y, .string ⟨#[]⟩, .slice none 0 0] := by rw [hW5]; exact xv4.put 2 _
      have hbr5 := xr5.cells
      have hbv5 := xv5.cells
      have hfr5 := xr5.free
      have hfv5 := xv5.free
      clear hW5 xr4 xv4 hbr4 hbv4 hfr4 hfv4 HB4 hz4
      have hRt : ∀ W, Below w.heap.size w W → Calls Tryd.prog 22 #[.agg #[.int .i64 5, .bool false, .int .i64 y, .string ⟨#[]⟩, .slice none 0 0]] W fun e w' => e = .returned (.bool true) ∧ Below W.heap.size W w' := fun W hW => by
        have h := right_any 5 y false ⟨#[]⟩ none [] 0 W ⟨by decide, fun h => absurd h (by decide)⟩
        rw [show rightB 5 false y ⟨#[]⟩ [] = true from by simp [rightB, hn]; rfl] at h
        exact h
      go_wp2_with (go_at_call 22; refine (hRt _ HB5).mono ?_)
      first
        | (intro e W6 he hb6; subst he)
        | rintro e W6 ⟨rfl, hb6⟩
      have HB6 := below_then HB5 hb6
      have hz6 : w.heap.size + 1 < W6.heap.size := by have := hb6.size; omega
      have xr6 := xr5.kept hb6
      have xv6 := xv5.kept hb6
      have hbr6 := xr6.cells
      have hbv6 := xv6.cells
      have hfr6 := xr6.free
      have hfv6 := xv6.free
      clear hb6 xr5 xv5 hbr5 hbv5 hfr5 hfv5 HB5 hz5
      have hnw : RowKit.wrap64 ((m : Int) - ((m1 - 8 : Nat) : Int)) = (i : Int) + 9 := by
        have := HNX.out
        rw [show (m : Int) - ((m1 - 8 : Nat) : Int) = (i : Int) + 9 by omega]
        unfold RowKit.wrap64
        omega
      go_wp2
      obtain ⟨W7, hW7⟩ : ∃ W7, W7 = (((((W6.setCell ⟨w.heap.size, 0, none⟩ (.int .i64 5)).setCell ⟨w.heap.size, 1, none⟩ (.bool false)).setCell ⟨w.heap.size, 2, none⟩ (.int .i64 y)).setCell ⟨w.heap.size, 3, none⟩ (.string ⟨#[]⟩)).setCell ⟨w.heap.size, 4, none⟩ (.slice none 0 0)) := ⟨_, rfl⟩
      rw [← hW7]
      have HB7 : Below w.heap.size w W7 := by rw [hW7]; exact below_set (below_set (below_set (below_set (below_set HB6 (by simp) _) (by simp) _) (by simp) _) (by simp) _) (by simp) _
      have xr7 : Box W7 w.heap.size #[.int .i64 5, .bool false, .int .i64 y, .string ⟨#[]⟩, .slice none 0 0] := by rw [hW7]; exact ((((xr6.put 0 _).put 1 _).put 2 _).put 3 _).put 4 _
      rw [Exit.noGoto_ret]
      (try subst hyy)
      (try subst hxx)
      refine bodyPost_ret (results_c3 _ rfl rfl (box_load xr7 rfl rfl rfl rfl rfl)) rfl ?_
      first
        | exact ⟨rfl, HB7⟩
        | exact ⟨congrArg (fun z => Ending.returned (Value.tuple #[_, Value.int .i64 z, Value.int .i64 0])) hnw, HB7⟩
theorem sub_sub_nat2 (m i : Nat) (h : i ≤ m) : (m : Int) - ((m - i : Nat) : Int) = (i : Int) := by omega
set_option maxRecDepth 100000 in
set_option maxHeartbeats 3200000 in
theorem dec_range0 (A : Option Addr) (m : Nat) (c : Nat) (z : Int) (w : World) (hl : m ≤ 9223372036854775807) (hz : z < 0) :
    Calls Tryd.prog 36 #[.slice A m c, .int .i64 z] w fun e w' => e = .returned (.tuple #[.agg #[.int .i64 0, .bool false, .int .i64 0, .string ⟨#[]⟩, .slice none 0 0], .int .i64 0, .int .i64 21]) ∧ Below w.heap.size w w' := by
  go_enter Tryd.func36, Tryd.ntmps36
  go_wp2
  refine wp_scope_jumps 0 (fun a' w' => a' = { tmps := #[(a'.tmps.getD 0 undef), (a'.tmps.getD 1 undef), (a'.tmps.getD 2 undef), (a'.tmps.getD 3 undef), .pointer (some ⟨w.heap.size, 0, none⟩), (a'.tmps.getD 5 undef), (a'.tmps.getD 6 undef), (a'.tmps.getD 7 undef), (a'.tmps.getD 8 undef), (a'.tmps.getD 9 undef), (a'.tmps.getD 10 undef), (a'.tmps.getD 11 undef), (a'.tmps.getD 12 undef), (a'.tmps.getD 13 undef), (a'.tmps.getD 14 undef), (a'.tmps.getD 15 undef), (a'.tmps.getD 16 undef), (a'.tmps.getD 17 undef), (a'.tmps.getD 18 undef), (a'.tmps.getD 19 undef), (a'.tmps.getD 20 undef), (a'.tmps.getD 21 undef), (a'.tmps.getD 22 undef), (a'.tmps.getD 23 undef), (a'.tmps.getD 24 undef), (a'.tmps.getD 25 undef), (a'.tmps.getD 26 undef), (a'.tmps.getD 27 undef), (a'.tmps.getD 28 undef), (a'.tmps.getD 29 undef), (a'.tmps.getD 30 undef), (a'.tmps.getD 31 undef), (a'.tmps.getD 32 undef), (a'.tmps.getD 33 undef), (a'.tmps.getD 34 undef), (a'.tmps.getD 35 undef), (a'.tmps.getD 36 undef), (a'.tmps.getD 37 undef), (a'.tmps.getD 38 undef), (a'.tmps.getD 39 undef), (a'.tmps.getD 40 undef), (a'.tmps.getD 41 undef), (a'.tmps.getD 42 undef), (a'.tmps.getD 43 undef), (a'.tmps.getD 44 undef), (a'.tmps.getD 45 undef), (a'.tmps.getD 46 undef), (a'.tmps.getD 47 undef), (a'.tmps.getD 48 undef), (a'.tmps.getD 49 undef), (a'.tmps.getD 50 undef), (a'.tmps.getD 51 undef), (a'.tmps.getD 52 undef), (a'.tmps.getD 53 undef), (a'.tmps.getD 54 undef), (a'.tmps.getD 55 undef), (a'.tmps.getD 56 undef), (a'.tmps.getD 57 undef), (a'.tmps.getD 58 undef), (a'.tmps.getD 59 undef), (a'.tmps.getD 60 undef), (a'.tmps.getD 61 undef), (a'.tmps.getD 62 undef), (a'.tmps.getD 63 undef), (a'.tmps.getD 64 undef), (a'.tmps.getD 65 undef), (a'.tmps.getD 66 undef), (a'.tmps.getD 67 undef), (a'.tmps.getD 68 undef), (a'.tmps.getD 69 undef), (a'.tmps.getD 70 undef), (a'.tmps.getD 71 undef), (a'.tmps.getD 72 undef), (a'.tmps.getD 73 undef), (a'.tmps.getD 74 undef), (a'.tmps.getD 75 undef), (a'.tmps.getD 76 undef), (a'.tmps.getD 77 undef), (a'.tmps.getD 78 undef), (a'.tmps.getD 79 undef), (a'.tmps.getD 80 undef), (a'.tmps.getD 81 undef), (a'.tmps.getD 82 undef), (a'.tmps.getD 83 undef), (a'.tmps.getD 84 undef), (a'.tmps.getD 85 undef), (a'.tmps.getD 86 undef), (a'.tmps.getD 87 undef), (a'.tmps.getD 88 undef), (a'.tmps.getD 89 undef), (a'.tmps.getD 90 undef), (a'.tmps.getD 91 undef), (a'.tmps.getD 92 undef), (a'.tmps.getD 93 undef), (a'.tmps.getD 94 undef), (a'.tmps.getD 95 undef), (a'.tmps.getD 96 undef), (a'.tmps.getD 97 undef), (a'.tmps.getD 98 undef), (a'.tmps.getD 99 undef), (a'.tmps.getD 100 undef), (a'.tmps.getD 101 undef), (a'.tmps.getD 102 undef), (a'.tmps.getD 103 undef), (a'.tmps.getD 104 undef), (a'.tmps.getD 105 undef), (a'.tmps.getD 106 undef), (a'.tmps.getD 107 undef), (a'.tmps.getD 108 undef), (a'.tmps.getD 109 undef), (a'.tmps.getD 110 undef), (a'.tmps.getD 111 undef), (a'.tmps.getD 112 undef), (a'.tmps.getD 113 undef), (a'.tmps.getD 114 undef), (a'.tmps.getD 115 undef), (a'.tmps.getD 116 undef), (a'.tmps.getD 117 undef), (a'.tmps.getD 118 undef), (a'.tmps.getD 119 undef), (a'.tmps.getD 120 undef), (a'.tmps.getD 121 undef), (a'.tmps.getD 122 undef), (a'.tmps.getD 123 undef), (a'.tmps.getD 124 undef), (a'.tmps.getD 125 undef), (a'.tmps.getD 126 undef), (a'.tmps.getD 127 undef), (a'.tmps.getD 128 undef), (a'.tmps.getD 129 undef), (a'.tmps.getD 130 undef), (a'.tmps.getD 131 undef), (a'.tmps.getD 132 undef), (a'.tmps.getD 133 undef), (a'.tmps.getD 134 undef), (a'.tmps.getD 135 undef), (a'.tmps.getD 136 undef), (a'.tmps.getD 137 undef), (a'.tmps.getD 138 undef)], defers := [] } ∧ Box w' w.heap.size #[.int .i64 0, .bool false, .int .i64 0, .string ⟨#[]⟩, .slice none 0 0] ∧ Below w.heap.size w w') (fun _ _ => 0) rfl ?first ?pass
  case pass =>
    rintro a' w' ⟨ha, xr, HB⟩
    obtain ⟨U, hU⟩ : ∃ U : Nat → Value, U = fun i => a'.tmps.getD i undef := ⟨_, rfl⟩
    have ha2 : a' = { tmps := #[U 0, U 1, U 2, U 3, .pointer (some ⟨w.heap.size, 0, none⟩), U 5, U 6, U 7, U 8, U 9, U 10, U 11, U 12, U 13, U 14, U 15, U 16, U 17, U 18, U 19, U 20, U 21, U 22, U 23, U 24, U 25, U 26, U 27, U 28, U 29, U 30, U 31, U 32, U 33, U 34, U 35, U 36, U 37, U 38, U 39, U 40, U 41, U 42, U 43, U 44, U 45, U 46, U 47, U 48, U 49, U 50, U 51, U 52, U 53, U 54, U 55, U 56, U 57, U 58, U 59, U 60, U 61, U 62, U 63, U 64, U 65, U 66, U 67, U 68, U 69, U 70, U 71, U 72, U 73, U 74, U 75, U 76, U 77, U 78, U 79, U 80, U 81, U 82, U 83, U 84, U 85, U 86, U 87, U 88, U 89, U 90, U 91, U 92, U 93, U 94, U 95, U 96, U 97, U 98, U 99, U 100, U 101, U 102, U 103, U 104, U 105, U 106, U 107, U 108, U 109, U 110, U 111, U 112, U 113, U 114, U 115, U 116, U 117, U 118, U 119, U 120, U 121, U 122, U 123, U 124, U 125, U 126, U 127, U 128, U 129, U 130, U 131, U 132, U 133, U 134, U 135, U 136, U 137, U 138], defers := [] } := by rw [hU]; exact ha
    clear hU ha
    subst ha2
    have hbr := xr.cells
    have hfr := xr.free
    go_wp2
    obtain ⟨W7, hW7⟩ : ∃ W7, W7 = (((((w'.setCell ⟨w.heap.size, 0, none⟩ (.int .i64 0)).setCell ⟨w.heap.size, 1, none⟩ (.bool false)).setCell ⟨w.heap.size, 2, none⟩ (.int .i64 0)).setCell ⟨w.heap.size, 3, none⟩ (.string ⟨#[]⟩)).setCell ⟨w.heap.size, 4, none⟩ (.slice none 0 0)) := ⟨_, rfl⟩
    rw [← hW7]
    have HB7 : Below w.heap.size w W7 := by rw [hW7]; exact below_set (below_set (below_set (below_set (below_set HB (by simp) _) (by simp) _) (by simp) _) (by simp) _) (by simp) _
    have xr7 : Box W7 w.heap.size #[.int .i64 0, .bool false, .int .i64 0, .string ⟨#[]⟩, .slice none 0 0] := by rw [hW7]; exact ((((xr.put 0 _).put 1 _).put 2 _).put 3 _).put 4 _
    first
      | refine bodyPost_ret (results_c3 _ rfl rfl (box_load xr7 rfl rfl rfl rfl rfl)) rfl ?_
      | (simp only [Exit.jump]; refine bodyPost_ret (results_c3 _ rfl rfl (box_load xr7 rfl rfl rfl rfl rfl)) rfl ?_)
    exact ⟨rfl, HB7⟩
  case first =>
  go_upto_region 6 with (fail)
  all_goals refine wp_goto ?_
  all_goals exact ⟨rfl, rfl, (Box.new w _).more _, below_more (below_more (Below.refl _ _) _) _⟩
set_option maxRecDepth 100000 in
set_option maxHeartbeats 3200000 in
theorem dec_range1 (A : Option Addr) (m : Nat) (c : Nat) (z : Int) (w : World) (hl : m ≤ 9223372036854775807) (hz : ¬ z < 0 ∧ (m : Int) ≤ z) :
    Calls Tryd.prog 36 #[.slice A m c, .int .i64 z] w fun e w' => e = .returned (.tuple #[.agg #[.int .i64 0, .bool false, .int .i64 0, .string ⟨#[]⟩, .slice none 0 0], .int .i64 0, .int .i64 21]) ∧ Below w.heap.size w w' := by
  obtain ⟨h0, h1⟩ := hz
  have h2 : ¬ z < (m : Int) := by omega
  have h3 : 0 ≤ z := by omega
  go_enter Tryd.func36, Tryd.ntmps36
  go_wp2
  refine wp_scope_jumps 0 (fun a' w' => a' = { tmps := #[(a'.tmps.getD 0 undef), (a'.tmps.getD 1 undef), (a'.tmps.getD 2 undef), (a'.tmps.getD 3 undef), .pointer (some ⟨w.heap.size, 0, none⟩), (a'.tmps.getD 5 undef), (a'.tmps.getD 6 undef), (a'.tmps.getD 7 undef), (a'.tmps.getD 8 undef), (a'.tmps.getD 9 undef), (a'.tmps.getD 10 undef), (a'.tmps.getD 11 undef), (a'.tmps.getD 12 undef), (a'.tmps.getD 13 undef), (a'.tmps.getD 14 undef), (a'.tmps.getD 15 undef), (a'.tmps.getD 16 undef), (a'.tmps.getD 17 undef), (a'.tmps.getD 18 undef), (a'.tmps.getD 19 undef), (a'.tmps.getD 20 undef), (a'.tmps.getD 21 undef), (a'.tmps.getD 22 undef), (a'.tmps.getD 23 undef), (a'.tmps.getD 24 undef), (a'.tmps.getD 25 undef), (a'.tmps.getD 26 undef), (a'.tmps.getD 27 undef), (a'.tmps.getD 28 undef), (a'.tmps.getD 29 undef), (a'.tmps.getD 30 undef), (a'.tmps.getD 31 undef), (a'.tmps.getD 32 undef), (a'.tmps.getD 33 undef), (a'.tmps.getD 34 undef), (a'.tmps.getD 35 undef), (a'.tmps.getD 36 undef), (a'.tmps.getD 37 undef), (a'.tmps.getD 38 undef), (a'.tmps.getD 39 undef), (a'.tmps.getD 40 undef), (a'.tmps.getD 41 undef), (a'.tmps.getD 42 undef), (a'.tmps.getD 43 undef), (a'.tmps.getD 44 undef), (a'.tmps.getD 45 undef), (a'.tmps.getD 46 undef), (a'.tmps.getD 47 undef), (a'.tmps.getD 48 undef), (a'.tmps.getD 49 undef), (a'.tmps.getD 50 undef), (a'.tmps.getD 51 undef), (a'.tmps.getD 52 undef), (a'.tmps.getD 53 undef), (a'.tmps.getD 54 undef), (a'.tmps.getD 55 undef), (a'.tmps.getD 56 undef), (a'.tmps.getD 57 undef), (a'.tmps.getD 58 undef), (a'.tmps.getD 59 undef), (a'.tmps.getD 60 undef), (a'.tmps.getD 61 undef), (a'.tmps.getD 62 undef), (a'.tmps.getD 63 undef), (a'.tmps.getD 64 undef), (a'.tmps.getD 65 undef), (a'.tmps.getD 66 undef), (a'.tmps.getD 67 undef), (a'.tmps.getD 68 undef), (a'.tmps.getD 69 undef), (a'.tmps.getD 70 undef), (a'.tmps.getD 71 undef), (a'.tmps.getD 72 undef), (a'.tmps.getD 73 undef), (a'.tmps.getD 74 undef), (a'.tmps.getD 75 undef), (a'.tmps.getD 76 undef), (a'.tmps.getD 77 undef), (a'.tmps.getD 78 undef), (a'.tmps.getD 79 undef), (a'.tmps.getD 80 undef), (a'.tmps.getD 81 undef), (a'.tmps.getD 82 undef), (a'.tmps.getD 83 undef), (a'.tmps.getD 84 undef), (a'.tmps.getD 85 undef), (a'.tmps.getD 86 undef), (a'.tmps.getD 87 undef), (a'.tmps.getD 88 undef), (a'.tmps.getD 89 undef), (a'.tmps.getD 90 undef), (a'.tmps.getD 91 undef), (a'.tmps.getD 92 undef), (a'.tmps.getD 93 undef), (a'.tmps.getD 94 undef), (a'.tmps.getD 95 undef), (a'.tmps.getD 96 undef), (a'.tmps.getD 97 undef), (a'.tmps.getD 98 undef), (a'.tmps.getD 99 undef), (a'.tmps.getD 100 undef), (a'.tmps.getD 101 undef), (a'.tmps.getD 102 undef), (a'.tmps.getD 103 undef), (a'.tmps.getD 104 undef), (a'.tmps.getD 105 undef), (a'.tmps.getD 106 undef), (a'.tmps.getD 107 undef), (a'.tmps.getD 108 undef), (a'.tmps.getD 109 undef), (a'.tmps.getD 110 undef), (a'.tmps.getD 111 undef), (a'.tmps.getD 112 undef), (a'.tmps.getD 113 undef), (a'.tmps.getD 114 undef), (a'.tmps.getD 115 undef), (a'.tmps.getD 116 undef), (a'.tmps.getD 117 undef), (a'.tmps.getD 118 undef), (a'.tmps.getD 119 undef), (a'.tmps.getD 120 undef), (a'.tmps.getD 121 undef), (a'.tmps.getD 122 undef), (a'.tmps.getD 123 undef), (a'.tmps.getD 124 undef), (a'.tmps.getD 125 undef), (a'.tmps.getD 126 undef), (a'.tmps.getD 127 undef), (a'.tmps.getD 128 undef), (a'.tmps.getD 129 undef), (a'.tmps.getD 130 undef), (a'.tmps.getD 131 undef), (a'.tmps.getD 132 undef), (a'.tmps.getD 133 undef), (a'.tmps.getD 134 undef), (a'.tmps.getD 135 undef), (a'.tmps.getD 136 undef), (a'.tmps.getD 137 undef), (a'.tmps.getD 138 undef)], defers := [] } ∧ Box w' w.heap.size #[.int .i64 0, .bool false, .int .i64 0, .string ⟨#[]⟩, .slice none 0 0] ∧ Below w.heap.size w w') (fun _ _ => 0) rfl ?first ?pass
  case pass =>
    rintro a' w' ⟨ha, xr, HB⟩
    obtain ⟨U, hU⟩ : ∃ U : Nat → Value, U = fun i => a'.tmps.getD i undef := ⟨_, rfl⟩
    have ha2 : a' = { tmps := #[U 0, U 1, U 2, U 3, .pointer (some ⟨w.heap.size, 0, none⟩), U 5, U 6, U 7, U 8, U 9, U 10, U 11, U 12, U 13, U 14, U 15, U 16, U 17, U 18, U 19, U 20, U 21, U 22, U 23, U 24, U 25, U 26, U 27, U 28, U 29, U 30, U 31, U 32, U 33, U 34, U 35, U 36, U 37, U 38, U 39, U 40, U 41, U 42, U 43, U 44, U 45, U 46, U 47, U 48, U 49, U 50, U 51, U 52, U 53, U 54, U 55, U 56, U 57, U 58, U 59, U 60, U 61, U 62, U 63, U 64, U 65, U 66, U 67, U 68, U 69, U 70, U 71, U 72, U 73, U 74, U 75, U 76, U 77, U 78, U 79, U 80, U 81, U 82, U 83, U 84, U 85, U 86, U 87, U 88, U 89, U 90, U 91, U 92, U 93, U 94, U 95, U 96, U 97, U 98, U 99, U 100, U 101, U 102, U 103, U 104, U 105, U 106, U 107, U 108, U 109, U 110, U 111, U 112, U 113, U 114, U 115, U 116, U 117, U 118, U 119, U 120, U 121, U 122, U 123, U 124, U 125, U 126, U 127, U 128, U 129, U 130, U 131, U 132, U 133, U 134, U 135, U 136, U 137, U 138], defers := [] } := by rw [hU]; exact ha
    clear hU ha
    subst ha2
    have hbr := xr.cells
    have hfr := xr.free
    go_wp2
    obtain ⟨W7, hW7⟩ : ∃ W7, W7 = (((((w'.setCell ⟨w.heap.size, 0, none⟩ (.int .i64 0)).setCell ⟨w.heap.size, 1, none⟩ (.bool false)).setCell ⟨w.heap.size, 2, none⟩ (.int .i64 0)).setCell ⟨w.heap.size, 3, none⟩ (.string ⟨#[]⟩)).setCell ⟨w.heap.size, 4, none⟩ (.slice none 0 0)) := ⟨_, rfl⟩
    rw [← hW7]
    have HB7 : Below w.heap.size w W7 := by rw [hW7]; exact below_set (below_set (below_set (below_set (below_set HB (by simp) _) (by simp) _) (by simp) _) (by simp) _) (by simp) _
    have xr7 : Box W7 w.heap.size #[.int .i64 0, .bool false, .int .i64 0, .string ⟨#[]⟩, .slice none 0 0] := by rw [hW7]; exact ((((xr.put 0 _).put 1 _).put 2 _).put 3 _).put 4 _
    first
      | refine bodyPost_ret (results_c3 _ rfl rfl (box_load xr7 rfl rfl rfl rfl rfl)) rfl ?_
      | (simp only [Exit.jump]; refine bodyPost_ret (results_c3 _ rfl rfl (box_load xr7 rfl rfl rfl rfl rfl)) rfl ?_)
    exact ⟨rfl, HB7⟩
  case first =>
  go_upto_region 6 with (fail)
  all_goals refine wp_goto ?_
  all_goals exact ⟨rfl, rfl, (Box.new w _).more _, below_more (below_more (Below.refl _ _) _) _⟩
set_option maxRecDepth 100000 in
set_option maxHeartbeats 3200000 in
theorem dec_1_short (A : Option Addr) (bs : List Int) (c : Nat) (i : Nat) (w : World) (hr : ReadsB w A bs) (hi : i < bs.length) (hc : bs.length ≤ c) (hbt : ∀ x ∈ bs, 0 ≤ x ∧ x < 256) (hk : bs.getD i 0 = 1) (hs : bs.length - (i + 1) < 1) :
    Calls Tryd.prog 36 #[.slice A bs.length c, .int .i64 (i : Int)] w fun e w' => e = .returned (.tuple #[.agg #[.int .i64 0, .bool false, .int .i64 0, .string ⟨#[]⟩, .slice none 0 0], .int .i64 0, .int .i64 21]) ∧ Below w.heap.size w w' := by
  obtain ⟨ad, rfl, hcell⟩ := hr.2 (by omega)
  have hci : ∀ W, Below w.heap.size w W → W.cell? (ad.add i) = some (.int .u8 1) := fun W hW => by
    obtain ⟨ad', e, h⟩ := (hr.below hW).2 (by omega)
    cases e
    rw [h i hi, hk]
  have hmx := hr.1
  have hrd := hr.drop c (i + 1) hc
  obtain ⟨m, hm⟩ : ∃ m, m = bs.length := ⟨_, rfl⟩
  have hlr : (bs.drop (i + 1)).length = m - (i + 1) := by rw [List.length_drop, hm]
  (try rw [← hm] at hs)
  rw [← hm] at hi hc hmx ⊢
  have hsl : ∀ W, (Instr.slice 30 (.slice (some ad) m c) (some (.int .i64 ((i : Int) + 1))) none none).run Tryd.prog W = .ok (.slice (cutA (some ad) c (i + 1)) (m - (i + 1)) (c - (i + 1))) W := fun W => slice_from W (some ad) m c (i + 1) (by omega) (by omega)
  generalize cutA (some ad) c (i + 1) = Q at hsl hrd
  have hrs : ∀ x ∈ bs.drop (i + 1), 0 ≤ x ∧ x < 256 := fun x hx => hbt x (List.mem_of_mem_drop hx)
  first
    | generalize bs.drop (i + 1) = rs at hlr hrd hrs hn ⊢
    | generalize bs.drop (i + 1) = rs at hlr hrd hrs ⊢
  have hii : (i : Int) < (m : Int) := by omega
  have hi0 : (0 : Int) ≤ (i : Int) := by omega
  have HM := Aside0.mk hm
  have HR := Aside0.mk hr
  have HRD := Aside0.mk hrd
  have HLR := Aside0.mk hlr
  have HCI := Aside0.mk hci
  clear hm hr hk hcell hrd hlr hci hbt
  go_enter Tryd.func36, Tryd.ntmps36
  go_wp2
  refine wp_scope_jumps 0 (fun a' w' => a' = { tmps := #[(a'.tmps.getD 0 undef), (a'.tmps.getD 1 undef), (a'.tmps.getD 2 undef), (a'.tmps.getD 3 undef), .pointer (some ⟨w.heap.size, 0, none⟩), (a'.tmps.getD 5 undef), (a'.tmps.getD 6 undef), (a'.tmps.getD 7 undef), (a'.tmps.getD 8 undef), (a'.tmps.getD 9 undef), (a'.tmps.getD 10 undef), (a'.tmps.getD 11 undef), (a'.tmps.getD 12 undef), (a'.tmps.getD 13 undef), (a'.tmps.getD 14 undef), (a'.tmps.getD 15 undef), (a'.tmps.getD 16 undef), (a'.tmps.getD 17 undef), (a'.tmps.getD 18 undef), (a'.tmps.getD 19 undef), (a'.tmps.getD 20 undef), (a'.tmps.getD 21 undef), (a'.tmps.getD 22 undef), (a'.tmps.getD 23 undef), (a'.tmps.getD 24 undef), (a'.tmps.getD 25 undef), (a'.tmps.getD 26 undef), (a'.tmps.getD 27 undef), (a'.tmps.getD 28 undef), (a'.tmps.getD 29 undef), (a'.tmps.getD 30 undef), (a'.tmps.getD 31 undef), (a'.tmps.getD 32 undef), (a'.tmps.getD 33 undef), (a'.tmps.getD 34 undef), (a'.tmps.getD 35 undef), (a'.tmps.getD 36 undef), (a'.tmps.getD 37 undef), (a'.tmps.getD 38 undef), (a'.tmps.getD 39 undef), (a'.tmps.getD 40 undef), (a'.tmps.getD 41 undef), (a'.tmps.getD 42 undef), (a'.tmps.getD 43 undef), (a'.tmps.getD 44 undef), (a'.tmps.getD 45 undef), (a'.tmps.getD 46 undef), (a'.tmps.getD 47 undef), (a'.tmps.getD 48 undef), (a'.tmps.getD 49 undef), (a'.tmps.getD 50 undef), (a'.tmps.getD 51 undef), (a'.tmps.getD 52 undef), (a'.tmps.getD 53 undef), (a'.tmps.getD 54 undef), (a'.tmps.getD 55 undef), (a'.tmps.getD 56 undef), (a'.tmps.getD 57 undef), (a'.tmps.getD 58 undef), (a'.tmps.getD 59 undef), (a'.tmps.getD 60 undef), (a'.tmps.getD 61 undef), (a'.tmps.getD 62 undef), (a'.tmps.getD 63 undef), (a'.tmps.getD 64 undef), (a'.tmps.getD 65 undef), (a'.tmps.getD 66 undef), (a'.tmps.getD 67 undef), (a'.tmps.getD 68 undef), (a'.tmps.getD 69 undef), (a'.tmps.getD 70 undef), (a'.tmps.getD 71 undef), (a'.tmps.getD 72 undef), (a'.tmps.getD 73 undef), (a'.tmps.getD 74 undef), (a'.tmps.getD 75 undef), (a'.tmps.getD 76 undef), (a'.tmps.getD 77 undef), (a'.tmps.getD 78 undef), (a'.tmps.getD 79 undef), (a'.tmps.getD 80 undef), (a'.tmps.getD 81 undef), (a'.tmps.getD 82 undef), (a'.tmps.getD 83 undef), (a'.tmps.getD 84 undef), (a'.tmps.getD 85 undef), (a'.tmps.getD 86 undef), (a'.tmps.getD 87 undef), (a'.tmps.getD 88 undef), (a'.tmps.getD 89 undef), (a'.tmps.getD 90 undef), (a'.tmps.getD 91 undef), (a'.tmps.getD 92 undef), (a'.tmps.getD 93 undef), (a'.tmps.getD 94 undef), (a'.tmps.getD 95 undef), (a'.tmps.getD 96 undef), (a'.tmps.getD 97 undef), (a'.tmps.getD 98 undef), (a'.tmps.getD 99 undef), (a'.tmps.getD 100 undef), (a'.tmps.getD 101 undef), (a'.tmps.getD 102 undef), (a'.tmps.getD 103 undef), (a'.tmps.getD 104 undef), (a'.tmps.getD 105 undef), (a'.tmps.getD 106 undef), (a'.tmps.getD 107 undef), (a'.tmps.getD 108 undef), (a'.tmps.getD 109 undef), (a'.tmps.getD 110 undef), (a'.tmps.getD 111 undef), (a'.tmps.getD 112 undef), (a'.tmps.getD 113 undef), (a'.tmps.getD 114 undef), (a'.tmps.getD 115 undef), (a'.tmps.getD 116 undef), (a'.tmps.getD 117 undef), (a'.tmps.getD 118 undef), (a'.tmps.getD 119 undef), (a'.tmps.getD 120 undef), (a'.tmps.getD 121 undef), (a'.tmps.getD 122 undef), (a'.tmps.getD 123 undef), (a'.tmps.getD 124 undef), (a'.tmps.getD 125 undef), (a'.tmps.getD 126 undef), (a'.tmps.getD 127 undef), (a'.tmps.getD 128 undef), (a'.tmps.getD 129 undef), (a'.tmps.getD 130 undef), (a'.tmps.getD 131 undef), (a'.tmps.getD 132 undef), (a'.tmps.getD 133 undef), (a'.tmps.getD 134 undef), (a'.tmps.getD 135 undef), (a'.tmps.getD 136 undef), (a'.tmps.getD 137 undef), (a'.tmps.getD 138 undef)], defers := [] } ∧ Box w' w.heap.size #[.int .i64 0, .bool false, .int .i64 0, .string ⟨#[]⟩, .slice none 0 0] ∧ Below w.heap.size w w') (fun _ _ => 0) rfl ?first ?pass
  case pass =>
    rintro a' w' ⟨ha, xr, HB⟩
    obtain ⟨U, hU⟩ : ∃ U : Nat → Value, U = fun i => a'.tmps.getD i undef := ⟨_, rfl⟩
    have ha2 : a' = { tmps := #[U 0, U 1, U 2, U 3, .pointer (some ⟨w.heap.size, 0, none⟩), U 5, U 6, U 7, U 8, U 9, U 10, U 11, U 12, U 13, U 14, U 15, U 16, U 17, U 18, U 19, U 20, U 21, U 22, U 23, U 24, U 25, U 26, U 27, U 28, U 29, U 30, U 31, U 32, U 33, U 34, U 35, U 36, U 37, U 38, U 39, U 40, U 41, U 42, U 43, U 44, U 45, U 46, U 47, U 48, U 49, U 50, U 51, U 52, U 53, U 54, U 55, U 56, U 57, U 58, U 59, U 60, U 61, U 62, U 63, U 64, U 65, U 66, U 67, U 68, U 69, U 70, U 71, U 72, U 73, U 74, U 75, U 76, U 77, U 78, U 79, U 80, U 81, U 82, U 83, U 84, U 85, U 86, U 87, U 88, U 89, U 90, U 91, U 92, U 93, U 94, U 95, U 96, U 97, U 98, U 99, U 100, U 101, U 102, U 103, U 104, U 105, U 106, U 107, U 108, U 109, U 110, U 111, U 112, U 113, U 114, U 115, U 116, U 117, U 118, U 119, U 120, U 121, U 122, U 123, U 124, U 125, U 126, U 127, U 128, U 129, U 130, U 131, U 132, U 133, U 134, U 135, U 136, U 137, U 138], defers := [] } := by rw [hU]; exact ha
    clear hU ha
    subst ha2
    have hbr := xr.cells
    have hfr := xr.free
    go_wp2
    obtain ⟨W7, hW7⟩ : ∃ W7, W7 = (((((w'.setCell ⟨w.heap.size, 0, none⟩ (.int .i64 0)).setCell ⟨w.heap.size, 1, none⟩ (.bool false)).setCell ⟨w.heap.size, 2, none⟩ (.int .i64 0)).setCell ⟨w.heap.size, 3, none⟩ (.string ⟨#[]⟩)).setCell ⟨w.heap.size, 4, none⟩ (.slice none 0 0)) := ⟨_, rfl⟩
    rw [← hW7]
    have HB7 : Below w.heap.size w W7 := by rw [hW7]; exact below_set (below_set (below_set (below_set (below_set HB (by simp) _) (by simp) _) (by simp) _) (by simp) _) (by simp) _
    have xr7 : Box W7 w.heap.size #[.int .i64 0, .bool false, .int .i64 0, .string ⟨#[]⟩, .slice none 0 0] := by rw [hW7]; exact ((((xr.put 0 _).put 1 _).put 2 _).put 3 _).put 4 _
    first
      | refine bodyPost_ret (results_c3 _ rfl rfl (box_load xr7 rfl rfl rfl rfl rfl)) rfl ?_
      | (simp only [Exit.jump]; refine bodyPost_ret (results_c3 _ rfl rfl (box_load xr7 rfl rfl rfl rfl rfl)) rfl ?_)
    exact ⟨rfl, HB7⟩
  case first =>
  go_upto_region 6 with (fail)
  obtain ⟨W2, hW2⟩ : ∃ W2, W2 = (w.alloc (.cells #[.int .i64 0, .bool false, .int .i64 0, .string ⟨#[]⟩, .slice none 0 0] 25)).alloc (.cells #[.int .i64 0, .bool false, .int .i64 0, .string ⟨#[]⟩, .slice none 0 0] 25) := ⟨_, rfl⟩
  rw [← hW2]
  have HB2 : Below w.heap.size w W2 := by rw [hW2]; exact below_more (below_more (Below.refl _ _) _) _
  have hz2 : w.heap.size + 1 < W2.heap.size := by rw [hW2]; simp
  have xr2 : Box W2 w.heap.size #[.int .i64 0, .bool false, .int .i64 0, .string ⟨#[]⟩, .slice none 0 0] := by rw [hW2]; exact (Box.new w _).more _
  have xv2 : Box W2 (w.heap.size + 1) #[.int .i64 0, .bool false, .int .i64 0, .string ⟨#[]⟩, .slice none 0 0] := by rw [hW2]; have h := Box.new (w.alloc (.cells #[.int .i64 0, .bool false, .int .i64 0, .string ⟨#[]⟩, .slice none 0 0] 25)) #[.int .i64 0, .bool false, .int .i64 0, .string ⟨#[]⟩, .slice none 0 0]; simpa using h
  have hbr2 := xr2.cells
  have hbv2 := xv2.cells
  have hfr2 := xr2.free
  have hfv2 := xv2.free
  have hcx := HCI.out W2 HB2
  clear hW2
  go_upto_region 8 with (fail)
  obtain ⟨W3, hW3⟩ : ∃ W3, W3 = W2.setCell ⟨w.heap.size + 1, 0, none⟩ (.int .i64 1) := ⟨_, rfl⟩
  rw [← hW3]
  have HB3 : Below w.heap.size w W3 := by rw [hW3]; exact below_set HB2 (by simp) _
  have hz3 : w.heap.size + 1 < W3.heap.size := by rw [hW3]; simpa using hz2
  have xr3 : Box W3 w.heap.size #[.int .i64 0, .bool false, .int .i64 0, .string ⟨#[]⟩, .slice none 0 0] := by rw [hW3]; exact xr2.off _ _ (by simp)
  have xv3 : Box W3 (w.heap.size + 1) #[.int .i64 1, .bool false, .int .i64 0, .string ⟨#[]⟩, .slice none 0 0] := by rw [hW3]; exact xv2.put 0 _
  have hbr3 := xr3.cells
  have hbv3 := xv3.cells
  have hfr3 := xr3.free
  have hfv3 := xv3.free
  clear hW3 xr2 xv2 hbr2 hbv2 hfr2 hfv2 HB2 hz2
  obtain ⟨m1, hm1⟩ : ∃ m1, m1 = m - (i + 1) := ⟨_, rfl⟩
  rw [← hm1] at hs ⊢
  have hsi : (m1 : Int) < 1 := by omega
  have hsn : ¬ 1 ≤ m1 := by omega
  have hsn2 : ¬ (1 : Int) ≤ (m1 : Int) := by omega
  clear hm1 hsl hcx
  have hmin : min (1 : Int) 7 = 1 := by decide
  go_upto_region 10 with (fail)
  refine wp_goto ?_
  exact ⟨rfl, rfl, xr3.more _, below_more HB3 _⟩

set_option maxRecDepth 100000 in
set_option maxHeartbeats 3200000 in
theorem dec_2_short (A : Option Addr) (bs : List Int) (c : Nat) (i : Nat) (w : World) (hr : ReadsB w A bs) (hi : i < bs.length) (hc : bs.length ≤ c) (hbt : ∀ x ∈ bs, 0 ≤ x ∧ x < 256) (hk : bs.getD i 0 = 2) (hs : bs.length - (i + 1) < 8) :
    Calls Tryd.prog 36 #[.slice A bs.length c, .int .i64 (i : Int)] w fun e w' => e = .returned (.tuple #[.agg #[.int .i64 0, .bool false, .int .i64 0, .string ⟨#[]⟩, .slice none 0 0], .int .i64 0, .int .i64 21]) ∧ Below w.heap.size w w' := by
  obtain ⟨ad, rfl, hcell⟩ := hr.2 (by omega)
  have hci : ∀ W, Below w.heap.size w W → W.cell? (ad.add i) = some (.int .u8 2) := fun W hW => by
    obtain ⟨ad', e, h⟩ := (hr.below hW).2 (by omega)
    cases e
    rw [h i hi, hk]
  have hmx := hr.1
  have hrd := hr.drop c (i + 1) hc
  obtain ⟨m, hm⟩ : ∃ m, m = bs.length := ⟨_, rfl⟩
  have hlr : (bs.drop (i + 1)).length = m - (i + 1) := by rw [List.length_drop, hm]
  (try rw [← hm] at hs)
  rw [← hm] at hi hc hmx ⊢
  have hsl : ∀ W, (Instr.slice 30 (.slice (some ad) m c) (some (.int .i64 ((i : Int) + 1))) none none).run Tryd.prog W = .ok (.slice (cutA (some ad) c (i + 1)) (m - (i + 1)) (c - (i + 1))) W := fun W => slice_from W (some ad) m c (i + 1) (by omega) (by omega)
  generalize cutA (some ad) c (i + 1) = Q at hsl hrd
  have hrs : ∀ x ∈ bs.drop (i + 1), 0 ≤ x ∧ x < 256 := fun x hx => hbt x (List.mem_of_mem_drop hx)
  first
    | generalize bs.drop (i + 1) = rs at hlr hrd hrs hn ⊢
    | generalize bs.drop (i + 1) = rs at hlr hrd hrs ⊢
  have hii : (i : Int) < (m : Int) := by omega
  have hi0 : (0 : Int) ≤ (i : Int) := by omega
  have HM := Aside0.mk hm
  have HR := Aside0.mk hr
  have HRD := Aside0.mk hrd
  have HLR := Aside0.mk hlr
  have HCI := Aside0.mk hci
  clear hm hr hk hcell hrd hlr hci hbt
  go_enter Tryd.func36, Tryd.ntmps36
  go_wp2
  refine wp_scope_jumps 0 (fun a' w' => a' = { tmps := #[(a'.tmps.getD 0 undef), (a'.tmps.getD 1 undef), (a'.tmps.getD 2 undef), (a'.tmps.getD 3 undef), .pointer (some ⟨w.heap.size, 0, none⟩), (a'.tmps.getD 5 undef), (a'.tmps.getD 6 undef), (a'.tmps.getD 7 undef), (a'.tmps.getD 8 undef), (a'.tmps.getD 9 undef), (a'.tmps.getD 10 undef), (a'.tmps.getD 11 undef), (a'.tmps.getD 12 undef), (a'.tmps.getD 13 undef), (a'.tmps.getD 14 undef), (a'.tmps.getD 15 undef), (a'.tmps.getD 16 undef), (a'.tmps.getD 17 undef), (a'.tmps.getD 18 undef), (a'.tmps.getD 19 undef), (a'.tmps.getD 20 undef), (a'.tmps.getD 21 undef), (a'.tmps.getD 22 undef), (a'.tmps.getD 23 undef), (a'.tmps.getD 24 undef), (a'.tmps.getD 25 undef), (a'.tmps.getD 26 undef), (a'.tmps.getD 27 undef), (a'.tmps.getD 28 undef), (a'.tmps.getD 29 undef), (a'.tmps.getD 30 undef), (a'.tmps.getD 31 undef), (a'.tmps.getD 32 undef), (a'.tmps.getD 33 undef), (a'.tmps.getD 34 undef), (a'.tmps.getD 35 undef), (a'.tmps.getD 36 undef), (a'.tmps.getD 37 undef), (a'.tmps.getD 38 undef), (a'.tmps.getD 39 undef), (a'.tmps.getD 40 undef), (a'.tmps.getD 41 undef), (a'.tmps.getD 42 undef), (a'.tmps.getD 43 undef), (a'.tmps.getD 44 undef), (a'.tmps.getD 45 undef), (a'.tmps.getD 46 undef), (a'.tmps.getD 47 undef), (a'.tmps.getD 48 undef), (a'.tmps.getD 49 undef), (a'.tmps.getD 50 undef), (a'.tmps.getD 51 undef), (a'.tmps.getD 52 undef), (a'.tmps.getD 53 undef), (a'.tmps.getD 54 undef), (a'.tmps.getD 55 undef), (a'.tmps.getD 56 undef), (a'.tmps.getD 57 undef), (a'.tmps.getD 58 undef), (a'.tmps.getD 59 undef), (a'.tmps.getD 60 undef), (a'.tmps.getD 61 undef), (a'.tmps.getD 62 undef), (a'.tmps.getD 63 undef), (a'.tmps.getD 64 undef), (a'.tmps.getD 65 undef), (a'.tmps.getD 66 undef), (a'.tmps.getD 67 undef), (a'.tmps.getD 68 undef), (a'.tmps.getD 69 undef), (a'.tmps.getD 70 undef), (a'.tmps.getD 71 undef), (a'.tmps.getD 72 undef), (a'.tmps.getD 73 undef), (a'.tmps.getD 74 undef), (a'.tmps.getD 75 undef), (a'.tmps.getD 76 undef), (a'.tmps.getD 77 undef), (a'.tmps.getD 78 undef), (a'.tmps.getD 79 undef), (a'.tmps.getD 80 undef), (a'.tmps.getD 81 undef), (a'.tmps.getD 82 undef), (a'.tmps.getD 83 undef), (a'.tmps.getD 84 undef), (a'.tmps.getD 85 undef), (a'.tmps.getD 86 undef), (a'.tmps.getD 87 undef), (a'.tmps.getD 88 undef), (a'.tmps.getD 89 undef), (a'.tmps.getD 90 undef), (a'.tmps.getD 91 undef), (a'.tmps.getD 92 undef), (a'.tmps.getD 93 undef), (a'.tmps.getD 94 undef), (a'.tmps.getD 95 undef), (a'.tmps.getD 96 undef), (a'.tmps.getD 97 undef), (a'.tmps.getD 98 undef), (a'.tmps.getD 99 undef), (a'.tmps.getD 100 undef), (a'.tmps.getD 101 undef), (a'.tmps.getD 102 undef), (a'.tmps.getD 103 undef), (a'.tmps.getD 104 undef), (a'.tmps.getD 105 undef), (a'.tmps.getD 106 undef), (a'.tmps.getD 107 undef), (a'.tmps.getD 108 undef), (a'.tmps.getD 109 undef), (a'.tmps.getD 110 undef), (a'.tmps.getD 111 undef), (a'.tmps.getD 112 undef), (a'.tmps.getD 113 undef), (a'.tmps.getD 114 undef), (a'.tmps.getD 115 undef), (a'.tmps.getD 116 undef), (a'.tmps.getD 117 undef), (a'.tmps.getD 118 undef), (a'.tmps.getD 119 undef), (a'.tmps.getD 120 undef), (a'.tmps.getD 121 undef), (a'.tmps.getD 122 undef), (a'.tmps.getD 123 undef), (a'.tmps.getD 124 undef), (a'.tmps.getD 125 undef), (a'.tmps.getD 126 undef), (a'.tmps.getD 127 undef), (a'.tmps.getD 128 undef), (a'.tmps.getD 129 undef), (a'.tmps.getD 130 undef), (a'.tmps.getD 131 undef), (a'.tmps.getD 132 undef), (a'.tmps.getD 133 undef), (a'.tmps.getD 134 undef), (a'.tmps.getD 135 undef), (a'.tmps.getD 136 undef), (a'.tmps.getD 137 undef), (a'.tmps.getD 138 undef)], defers := [] } ∧ Box w' w.heap.size #[.int .i64 0, .bool false, .int .i64 0, .string ⟨#[]⟩, .slice none 0 0] ∧ Below w.heap.size w w') (fun _ _ => 0) rfl ?first ?pass
  case pass =>
    rintro a' w' ⟨ha, xr, HB⟩
    obtain ⟨U, hU⟩ : ∃ U : Nat → Value, U = fun i => a'.tmps.getD i undef := ⟨_, rfl⟩
    have ha2 : a' = { tmps := #[U 0, U 1, U 2, U 3, .pointer (some ⟨w.heap.size, 0, none⟩), U 5, U 6, U 7, U 8, U 9, U 10, U 11, U 12, U 13, U 14, U 15, U 16, U 17, U 18, U 19, U 20, U 21, U 22, U 23, U 24, U 25, U 26, U 27, U 28, U 29, U 30, U 31, U 32, U 33, U 34, U 35, U 36, U 37, U 38, U 39, U 40, U 41, U 42, U 43, U 44, U 45, U 46, U 47, U 48, U 49, U 50, U 51, U 52, U 53, U 54, U 55, U 56, U 57, U 58, U 59, U 60, U 61, U 62, U 63, U 64, U 65, U 66, U 67, U 68, U 69, U 70, U 71, U 72, U 73, U 74, U 75, U 76, U 77, U 78, U 79, U 80, U 81, U 82, U 83, U 84, U 85, U 86, U 87, U 88, U 89, U 90, U 91, U 92, U 93, U 94, U 95, U 96, U 97, U 98, U 99, U 100, U 101, U 102, U 103, U 104, U 105, U 106, U 107, U 108, U 109, U 110, U 111, U 112, U 113, U 114, U 115, U 116, U 117, U 118, U 119, U 120, U 121, U 122, U 123, U 124, U 125, U 126, U 127, U 128, U 129, U 130, U 131, U 132, U 133, U 134, U 135, U 136, U 137, U 138], defers := [] } := by rw [hU]; exact ha
    clear hU ha
    subst ha2
    have hbr := xr.cells
    have hfr := xr.free
    go_wp2
    obtain ⟨W7, hW7⟩ : ∃ W7, W7 = (((((w'.setCell ⟨w.heap.size, 0, none⟩ (.int .i64 0)).setCell ⟨w.heap.size, 1, none⟩ (.bool false)).setCell ⟨w.heap.size, 2, none⟩ (.int .i64 0)).setCell ⟨w.heap.size, 3, none⟩ (.string ⟨#[]⟩)).setCell ⟨w.heap.size, 4, none⟩ (.slice none 0 0)) := ⟨_, rfl⟩
    rw [← hW7]
    have HB7 : Below w.heap.size w W7 := by rw [hW7]; exact below_set (below_set (below_set (below_set (below_set HB (by simp) _) (by simp) _) (by simp) _) (by simp) _) (by simp) _
    have xr7 : Box W7 w.heap.size #[.int .i64 0, .bool false, .int .i64 0, .string ⟨#[]⟩, .slice none 0 0] := by rw [hW7]; exact ((((xr.put 0 _).put 1 _).put 2 _).put 3 _).put 4 _
    first
      | refine bodyPost_ret (results_c3 _ rfl rfl (box_load xr7 rfl rfl rfl rfl rfl)) rfl ?_
      | (simp only [Exit.jump]; refine bodyPost_ret (results_c3 _ rfl rfl (box_load xr7 rfl rfl rfl rfl rfl)) rfl ?_)
    exact ⟨rfl, HB7⟩
  case first =>
  go_upto_region 6 with (fail)
  obtain ⟨W2, hW2⟩ : ∃ W2, W2 = (w.alloc (.cells #[.int .i64 0, .bool false, .int .i64 0, .string ⟨#[]⟩, .slice none 0 0] 25)).alloc (.cells #[.int .i64 0, .bool false, .int .i64 0, .string ⟨#[]⟩, .slice none 0 0] 25) := ⟨_, rfl⟩
  rw [← hW2]
  have HB2 : Below w.heap.size w W2 := by rw [hW2]; exact below_more (below_more (Below.refl _ _) _) _
  have hz2 : w.heap.size + 1 < W2.heap.size := by rw [hW2]; simp
  have xr2 : Box W2 w.heap.size #[.int .i64 0, .bool false, .int .i64 0, .string ⟨#[]⟩, .slice none 0 0] := by rw [hW2]; exact (Box.new w _).more _
  have xv2 : Box W2 (w.heap.size + 1) #[.int .i64 0, .bool false, .int .i64 0, .string ⟨#[]⟩, .slice none 0 0] := by rw [hW2]; have h := Box.new (w.alloc (.cells #[.int .i64 0, .bool false, .int .i64 0, .string ⟨#[]⟩, .slice none 0 0] 25)) #[.int .i64 0, .bool false, .int .i64 0, .string ⟨#[]⟩, .slice none 0 0]; simpa using h
  have hbr2 := xr2.cells
  have hbv2 := xv2.cells
  have hfr2 := xr2.free
  have hfv2 := xv2.free
  have hcx := HCI.out W2 HB2
  clear hW2
  go_upto_region 8 with (fail)
  obtain ⟨W3, hW3⟩ : ∃ W3, W3 = W2.setCell ⟨w.heap.size + 1, 0, none⟩ (.int .i64 2) := ⟨_, rfl⟩
  rw [← hW3]
  have HB3 : Below w.heap.size w W3 := by rw [hW3]; exact below_set HB2 (by simp) _
  have hz3 : w.heap.size + 1 < W3.heap.size := by rw [hW3]; simpa using hz2
  have xr3 : Box W3 w.heap.size #[.int .i64 0, .bool false, .int .i64 0, .string ⟨#[]⟩, .slice none 0 0] := by rw [hW3]; exact xr2.off _ _ (by simp)
  have xv3 : Box W3 (w.heap.size + 1) #[.int .i64 2, .bool false, .int .i64 0, .string ⟨#[]⟩, .slice none 0 0] := by rw [hW3]; exact xv2.put 0 _
  have hbr3 := xr3.cells
  have hbv3 := xv3.cells
  have hfr3 := xr3.free
  have hfv3 := xv3.free
  clear hW3 xr2 xv2 hbr2 hbv2 hfr2 hfv2 HB2 hz2
  obtain ⟨m1, hm1⟩ : ∃ m1, m1 = m - (i + 1) := ⟨_, rfl⟩
  rw [← hm1] at hs ⊢
  have hsi : (m1 : Int) < 8 := by omega
  have hsn : ¬ 8 ≤ m1 := by omega
  have hsn2 : ¬ (8 : Int) ≤ (m1 : Int) := by omega
  clear hm1 hsl hcx
  have hmin : min (2 : Int) 7 = 2 := by decide
  go_upto_region 10 with (fail)
  refine wp_goto ?_
  exact ⟨rfl, rfl, xr3.more _, below_more HB3 _⟩

set_option maxRecDepth 100000 in
set_option maxHeartbeats 3200000 in
theorem dec_3_short (A : Option Addr) (bs : List Int) (c : Nat) (i : Nat) (w : World) (hr : ReadsB w A bs) (hi : i < bs.length) (hc : bs.length ≤ c) (hbt : ∀ x ∈ bs, 0 ≤ x ∧ x < 256) (hk : bs.getD i 0 = 3) (hs : bs.length - (i + 1) < 4) :
    Calls Tryd.prog 36 #[.slice A bs.length c, .int .i64 (i : Int)] w fun e w' => e = .returned (.tuple #[.agg #[.int .i64 0, .bool false, .int .i64 0, .string ⟨#[]⟩, .slice none 0 0], .int .i64 0, .int .i64 21]) ∧ Below w.heap.size w w' := by
  obtain ⟨ad, rfl, hcell⟩ := hr.2 (by omega)
  have hci : ∀ W, Below w.heap.size w W → W.cell? (ad.add i) = some (.int .u8 3) := fun W hW => by
    obtain ⟨ad', e, h⟩ := (hr.below hW).2 (by omega)
    cases e
    rw [h i hi, hk]
  have hmx := hr.1
  have hrd := hr.drop c (i + 1) hc
  obtain ⟨m, hm⟩ : ∃ m, m = bs.length := ⟨_, rfl⟩
  have hlr : (bs.drop (i + 1)).length = m - (i + 1) := by rw [List.length_drop, hm]
  (try rw [← hm] at hs)
  rw [← hm] at hi hc hmx ⊢
  have hsl : ∀ W, (Instr.slice 30 (.slice (some ad) m c) (some (.int .i64 ((i : Int) + 1))) none none).run Tryd.prog W = .ok (.slice (cutA (some ad) c (i + 1)) (m - (i + 1)) (c - (i + 1))) W := fun W => slice_from W (some ad) m c (i + 1) (by omega) (by omega)
  generalize cutA (some ad) c (i + 1) = Q at hsl hrd
  have hrs : ∀ x ∈ bs.drop (i + 1), 0 ≤ x ∧ x < 256 := fun x hx => hbt x (List.mem_of_mem_drop hx)
  first
    | generalize bs.drop (i + 1) = rs at hlr hrd hrs hn ⊢
    | generalize bs.drop (i + 1) = rs at hlr hrd hrs ⊢
  have hii : (i : Int) < (m : Int) := by omega
  have hi0 : (0 : Int) ≤ (i : Int) := by omega
  have HM := Aside0.mk hm
  have HR := Aside0.mk hr
  have HRD := Aside0.mk hrd
  have HLR := Aside0.mk hlr
  have HCI := Aside0.mk hci
  clear hm hr hk hcell hrd hlr hci hbt
  go_enter Tryd.func36, Tryd.ntmps36
  go_wp2
  refine wp_scope_jumps 0 (fun a' w' => a' = { tmps := #[(a'.tmps.getD 0 undef), (a'.tmps.getD 1 undef), (a'.tmps.getD 2 undef), (a'.tmps.getD 3 undef), .pointer (some ⟨w.heap.size, 0, none⟩), (a'.tmps.getD 5 undef), (a'.tmps.getD 6 undef), (a'.tmps.getD 7 undef), (a'.tmps.getD 8 undef), (a'.tmps.getD 9 undef), (a'.tmps.getD 10 undef), (a'.tmps.getD 11 undef), (a'.tmps.getD 12 undef), (a'.tmps.getD 13 undef), (a'.tmps.getD 14 undef), (a'.tmps.getD 15 undef), (a'.tmps.getD 16 undef), (a'.tmps.getD 17 undef), (a'.tmps.getD 18 undef), (a'.tmps.getD 19 undef), (a'.tmps.getD 20 undef), (a'.tmps.getD 21 undef), (a'.tmps.getD 22 undef), (a'.tmps.getD 23 undef), (a'.tmps.getD 24 undef), (a'.tmps.getD 25 undef), (a'.tmps.getD 26 undef), (a'.tmps.getD 27 undef), (a'.tmps.getD 28 undef), (a'.tmps.getD 29 undef), (a'.tmps.getD 30 undef), (a'.tmps.getD 31 undef), (a'.tmps.getD 32 undef), (a'.tmps.getD 33 undef), (a'.tmps.getD 34 undef), (a'.tmps.getD 35 undef), (a'.tmps.getD 36 undef), (a'.tmps.getD 37 undef), (a'.tmps.getD 38 undef), (a'.tmps.getD 39 undef), (a'.tmps.getD 40 undef), (a'.tmps.getD 41 undef), (a'.tmps.getD 42 undef), (a'.tmps.getD 43 undef), (a'.tmps.getD 44 undef), (a'.tmps.getD 45 undef), (a'.tmps.getD 46 undef), (a'.tmps.getD 47 undef), (a'.tmps.getD 48 undef), (a'.tmps.getD 49 undef), (a'.tmps.getD 50 undef), (a'.tmps.getD 51 undef), (a'.tmps.getD 52 undef), (a'.tmps.getD 53 undef), (a'.tmps.getD 54 undef), (a'.tmps.getD 55 undef), (a'.tmps.getD 56 undef), (a'.tmps.getD 57 undef), (a'.tmps.getD 58 undef), (a'.tmps.getD 59 undef), (a'.tmps.getD 60 undef), (a'.tmps.getD 61 undef), (a'.tmps.getD 62 undef), (a'.tmps.getD 63 undef), (a'.tmps.getD 64 undef), (a'.tmps.getD 65 undef), (a'.tmps.getD 66 undef), (a'.tmps.getD 67 undef), (a'.tmps.getD 68 undef), (a'.tmps.getD 69 undef), (a'.tmps.getD 70 undef), (a'.tmps.getD 71 undef), (a'.tmps.getD 72 undef), (a'.tmps.getD 73 undef), (a'.tmps.getD 74 undef), (a'.tmps.getD 75 undef), (a'.tmps.getD 76 undef), (a'.tmps.getD 77 undef), (a'.tmps.getD 78 undef), (a'.tmps.getD 79 undef), (a'.tmps.getD 80 undef), (a'.tmps.getD 81 undef), (a'.tmps.getD 82 undef), (a'.tmps.getD 83 undef), (a'.tmps.getD 84 undef), (a'.tmps.getD 85 undef), (a'.tmps.getD 86 undef), (a'.tmps.getD 87 undef), (a'.tmps.getD 88 undef), (a'.tmps.getD 89 undef), (a'.tmps.getD 90 undef), (a'.tmps.getD 91 undef), (a'.tmps.getD 92 undef), (a'.tmps.getD 93 undef), (a'.tmps.getD 94 undef), (a'.tmps.getD 95 undef), (a'.tmps.getD 96 undef), (a'.tmps.getD 97 undef), (a'.tmps.getD 98 undef), (a'.tmps.getD 99 undef), (a'.tmps.getD 100 undef), (a'.tmps.getD 101 undef), (a'.tmps.getD 102 undef), (a'.tmps.getD 103 undef), (a'.tmps.getD 104 undef), (a'.tmps.getD 105 undef), (a'.tmps.getD 106 undef), (a'.tmps.getD 107 undef), (a'.tmps.getD 108 undef), (a'.tmps.getD 109 undef), (a'.tmps.getD 110 undef), (a'.tmps.getD 111 undef), (a'.tmps.getD 112 undef), (a'.tmps.getD 113 undef), (a'.tmps.getD 114 undef), (a'.tmps.getD 115 undef), (a'.tmps.getD 116 undef), (a'.tmps.getD 117 undef), (a'.tmps.getD 118 undef), (a'.tmps.getD 119 undef), (a'.tmps.getD 120 undef), (a'.tmps.getD 121 undef), (a'.tmps.getD 122 undef), (a'.tmps.getD 123 undef), (a'.tmps.getD 124 undef), (a'.tmps.getD 125 undef), (a'.tmps.getD 126 undef), (a'.tmps.getD 127 undef), (a'.tmps.getD 128 undef), (a'.tmps.getD 129 undef), (a'.tmps.getD 130 undef), (a'.tmps.getD 131 undef), (a'.tmps.getD 132 undef), (a'.tmps.getD 133 undef), (a'.tmps.getD 134 undef), (a'.tmps.getD 135 undef), (a'.tmps.getD 136 undef), (a'.tmps.getD 137 undef), (a'.tmps.getD 138 undef)], defers := [] } ∧ Box w' w.heap.size #[.int .i64 0, .bool false, .int .i64 0, .string ⟨#[]⟩, .slice none 0 0] ∧ Below w.heap.size w w') (fun _ _ => 0) rfl ?first ?pass
  case pass =>
    rintro a' w' ⟨ha, xr, HB⟩
    obtain ⟨U, hU⟩ : ∃ U : Nat → Value, U = fun i => a'.tmps.getD i undef := ⟨_, rfl⟩
    have ha2 : a' = { tmps := #[U 0, U 1, U 2, U 3, .pointer (some ⟨w.heap.size, 0, none⟩), U 5, U 6, U 7, U 8, U 9, U 10, U 11, U 12, U 13, U 14, U 15, U 16, U 17, U 18, U 19, U 20, U 21, U 22, U 23, U 24, U 25, U 26, U 27, U 28, U 29, U 30, U 31, U 32, U 33, U 34, U 35, U 36, U 37, U 38, U 39, U 40, U 41, U 42, U 43, U 44, U 45, U 46, U 47, U 48, U 49, U 50, U 51, U 52, U 53, U 54, U 55, U 56, U 57, U 58, U 59, U 60, U 61, U 62, U 63, U 64, U 65, U 66, U 67, U 68, U 69, U 70, U 71, U 72, U 73, U 74, U 75, U 76, U 77, U 78, U 79, U 80, U 81, U 82, U 83, U 84, U 85, U 86, U 87, U 88, U 89, U 90, U 91, U 92, U 93, U 94, U 95, U 96, U 97, U 98, U 99, U 100, U 101, U 102, U 103, U 104, U 105, U 106, U 107, U 108, U 109, U 110, U 111, U 112, U 113, U 114, U 115, U 116, U 117, U 118, U 119, U 120, U 121, U 122, U 123, U 124, U 125, U 126, U 127, U 128, U 129, U 130, U 131, U 132, U 133, U 134, U 135, U 136, U 137, U 138], defers := [] } := by rw [hU]; exact ha
    clear hU ha
    subst ha2
    have hbr := xr.cells
    have hfr := xr.free
    go_wp2
    obtain ⟨W7, hW7⟩ : ∃ W7, W7 = (((((w'.setCell ⟨w.heap.size, 0, none⟩ (.int .i64 0)).setCell ⟨w.heap.size, 1, none⟩ (.bool false)).setCell ⟨w.heap.size, 2, none⟩ (.int .i64 0)).setCell ⟨w.heap.size, 3, none⟩ (.string ⟨#[]⟩)).setCell ⟨w.heap.size, 4, none⟩ (.slice none 0 0)) := ⟨_, rfl⟩
    rw [← hW7]
    have HB7 : Below w.heap.size w W7 := by rw [hW7]; exact below_set (below_set (below_set (below_set (below_set HB (by simp) _) (by simp) _) (by simp) _) (by simp) _) (by simp) _
    have xr7 : Box W7 w.heap.size #[.int .i64 0, .bool false, .int .i64 0, .string ⟨#[]⟩, .slice none 0 0] := by rw [hW7]; exact ((((xr.put 0 _).put 1 _).put 2 _).put 3 _).put 4 _
    first
      | refine bodyPost_ret (results_c3 _ rfl rfl (box_load xr7 rfl rfl rfl rfl rfl)) rfl ?_
      | (simp only [Exit.jump]; refine bodyPost_ret (results_c3 _ rfl rfl (box_load xr7 rfl rfl rfl rfl rfl)) rfl ?_)
    exact ⟨rfl, HB7⟩
  case first =>
  go_upto_region 6 with (fail)
  obtain ⟨W2, hW2⟩ : ∃ W2, W2 = (w.alloc (.cells #[.int .i64 0, .bool false, .int .i64 0, .string ⟨#[]⟩, .slice none 0 0] 25)).alloc (.cells #[.int .i64 0, .bool false, .int .i64 0, .string ⟨#[]⟩, .slice none 0 0] 25) := ⟨_, rfl⟩
  rw [← hW2]
  have HB2 : Below w.heap.size w W2 := by rw [hW2]; exact below_more (below_more (Below.refl _ _) _) _
  have hz2 : w.heap.size + 1 < W2.heap.size := by rw [hW2]; simp
  have xr2 : Box W2 w.heap.size #[.int .i64 0, .bool false, .int .i64 0, .string ⟨#[]⟩, .slice none 0 0] := by rw [hW2]; exact (Box.new w _).more _
  have xv2 : Box W2 (w.heap.size + 1) #[.int .i64 0, .bool false, .int .i64 0, .string ⟨#[]⟩, .slice none 0 0] := by rw [hW2]; have h := Box.new (w.alloc (.cells #[.int .i64 0, .bool false, .int .i64 0, .string ⟨#[]⟩, .slice none 0 0] 25)) #[.int .i64 0, .bool false, .int .i64 0, .string ⟨#[]⟩, .slice none 0 0]; simpa using h
  have hbr2 := xr2.cells
  have hbv2 := xv2.cells
  have hfr2 := xr2.free
  have hfv2 := xv2.free
  have hcx := HCI.out W2 HB2
  clear hW2
  go_upto_region 8 with (fail)
  obtain ⟨W3, hW3⟩ : ∃ W3, W3 = W2.setCell ⟨w.heap.size + 1, 0, none⟩ (.int .i64 3) := ⟨_, rfl⟩
  rw [← hW3]
  have HB3 : Below w.heap.size w W3 := by rw [hW3]; exact below_set HB2 (by simp) _
  have hz3 : w.heap.size + 1 < W3.heap.size := by rw [hW3]; simpa using hz2
  have xr3 : Box W3 w.heap.size #[.int .i64 0, .bool false, .int .i64 0, .string ⟨#[]⟩, .slice none 0 0] := by rw [hW3]; exact xr2.off _ _ (by simp)
  have xv3 : Box W3 (w.heap.size + 1) #[.int .i64 3, .bool false, .int .i64 0, .string ⟨#[]⟩, .slice none 0 0] := by rw [hW3]; exact xv2.put 0 _
  have hbr3 := xr3.cells
  have hbv3 := xv3.cells
  have hfr3 := xr3.free
  have hfv3 := xv3.free
  clear hW3 xr2 xv2 hbr2 hbv2 hfr2 hfv2 HB2 hz2
  obtain ⟨m1, hm1⟩ : ∃ m1, m1 = m - (i + 1) := ⟨_, rfl⟩
  rw [← hm1] at hs ⊢
  have hsi : (m1 : Int) < 4 := by omega
  have hsn : ¬ 4 ≤ m1 := by omega
  have hsn2 : ¬ (4 : Int) ≤ (m1 : Int) := by omega
  clear hm1 hsl hcx
  have hmin : min (3 : Int) 7 = 3 := by decide
  go_upto_region 10 with (fail)
  refine wp_goto ?_
  exact ⟨rfl, rfl, xr3.more _, below_more HB3 _⟩

set_option maxRecDepth 100000 in
set_option maxHeartbeats 3200000 in
theorem dec_4_short (A : Option Addr) (bs : List Int) (c : Nat) (i : Nat) (w : World) (hr : ReadsB w A bs) (hi : i < bs.length) (hc : bs.length ≤ c) (hbt : ∀ x ∈ bs, 0 ≤ x ∧ x < 256) (hk : bs.getD i 0 = 4) (hs : bs.length - (i + 1) < 8) :
    Calls Tryd.prog 36 #[.slice A bs.length c, .int .i64 (i : Int)] w fun e w' => e = .returned (.tuple #[.agg #[.int .i64 0, .bool false, .int .i64 0, .string ⟨#[]⟩, .slice none 0 0], .int .i64 0, .int .i64 21]) ∧ Below w.heap.size w w' := by
  obtain ⟨ad, rfl, hcell⟩ := hr.2 (by omega)
  have hci : ∀ W, Below w.heap.size w W → W.cell? (ad.add i) = some (.int .u8 4) := fun W hW => by
    obtain ⟨ad', e, h⟩ := (hr.below hW).2 (by omega)
    cases e
    rw [h i hi, hk]
  have hmx := hr.1
  have hrd := hr.drop c (i + 1) hc
  obtain ⟨m, hm⟩ : ∃ m, m = bs.length := ⟨_, rfl⟩
  have hlr : (bs.drop (i + 1)).length = m - (i + 1) := by rw [List.length_drop, hm]
  (try rw [← hm] at hs)
  rw [← hm] at hi hc hmx ⊢
  have hsl : ∀ W, (Instr.slice 30 (.slice (some ad) m c) (some (.int .i64 ((i : Int) + 1))) none none).run Tryd.prog W = .ok (.slice (cutA (some ad) c (i + 1)) (m - (i + 1)) (c - (i + 1))) W := fun W => slice_from W (some ad) m c (i + 1) (by omega) (by omega)
  generalize cutA (some ad) c (i + 1) = Q at hsl hrd
  have hrs : ∀ x ∈ bs.drop (i + 1), 0 ≤ x ∧ x < 256 := fun x hx => hbt x (List.mem_of_mem_drop hx)
  first
    | generalize bs.drop (i + 1) = rs at hlr hrd hrs hn ⊢
    | generalize bs.drop (i + 1) = rs at hlr hrd hrs ⊢
  have hii : (i : Int) < (m : Int) := by omega
  have hi0 : (0 : Int) ≤ (i : Int) := by omega
  have HM := Aside0.mk hm
  have HR := Aside0.mk hr
  have HRD := Aside0.mk hrd
  have HLR := Aside0.mk hlr
  have HCI := Aside0.mk hci
  clear hm hr hk hcell hrd hlr hci hbt
  go_enter Tryd.func36, Tryd.ntmps36
  go_wp2
  refine wp_scope_jumps 0 (fun a' w' => a' = { tmps := #[(a'.tmps.getD 0 undef), (a'.tmps.getD 1 undef), (a'.tmps.getD 2 undef), (a'.tmps.getD 3 undef), .pointer (some ⟨w.heap.size, 0, none⟩), (a'.tmps.getD 5 undef), (a'.tmps.getD 6 undef), (a'.tmps.getD 7 undef), (a'.tmps.getD 8 undef), (a'.tmps.getD 9 undef), (a'.tmps.getD 10 undef), (a'.tmps.getD 11 undef), (a'.tmps.getD 12 undef), (a'.tmps.getD 13 undef), (a'.tmps.getD 14 undef), (a'.tmps.getD 15 undef), (a'.tmps.getD 16 undef), (a'.tmps.getD 17 undef), (a'.tmps.getD 18 undef), (a'.tmps.getD 19 undef), (a'.tmps.getD 20 undef), (a'.tmps.getD 21 undef), (a'.tmps.getD 22 undef), (a'.tmps.getD 23 undef), (a'.tmps.getD 24 undef), (a'.tmps.getD 25 undef), (a'.tmps.getD 26 undef), (a'.tmps.getD 27 undef), (a'.tmps.getD 28 undef), (a'.tmps.getD 29 undef), (a'.tmps.getD 30 undef), (a'.tmps.getD 31 undef), (a'.tmps.getD 32 undef), (a'.tmps.getD 33 undef), (a'.tmps.getD 34 undef), (a'.tmps.getD 35 undef), (a'.tmps.getD 36 undef), (a'.tmps.getD 37 undef), (a'.tmps.getD 38 undef), (a'.tmps.getD 39 undef), (a'.tmps.getD 40 undef), (a'.tmps.getD 41 undef), (a'.tmps.getD 42 undef), (a'.tmps.getD 43 undef), (a'.tmps.getD 44 undef), (a'.tmps.getD 45 undef), (a'.tmps.getD 46 undef), (a'.tmps.getD 47 undef), (a'.tmps.getD 48 undef), (a'.tmps.getD 49 undef), (a'.tmps.getD 50 undef), (a'.tmps.getD 51 undef), (a'.tmps.getD 52 undef), (a'.tmps.getD 53 undef), (a'.tmps.getD 54 undef), (a'.tmps.getD 55 undef), (a'.tmps.getD 56 undef), (a'.tmps.getD 57 undef), (a'.tmps.getD 58 undef), (a'.tmps.getD 59 undef), (a'.tmps.getD 60 undef), (a'.tmps.getD 61 undef), (a'.tmps.getD 62 undef), (a'.tmps.getD 63 undef), (a'.tmps.getD 64 undef), (a'.tmps.getD 65 undef), (a'.tmps.getD 66 undef), (a'.tmps.getD 67 undef), (a'.tmps.getD 68 undef), (a'.tmps.getD 69 undef), (a'.tmps.getD 70 undef), (a'.tmps.getD 71 undef), (a'.tmps.getD 72 undef), (a'.tmps.getD 73 undef), (a'.tmps.getD 74 undef), (a'.tmps.getD 75 undef), (a'.tmps.getD 76 undef), (a'.tmps.getD 77 undef), (a'.tmps.getD 78 undef), (a'.tmps.getD 79 undef), (a'.tmps.getD 80 undef), (a'.tmps.getD 81 undef), (a'.tmps.getD 82 undef), (a'.tmps.getD 83 undef), (a'.tmps.getD 84 undef), (a'.tmps.getD 85 undef), (a'.tmps.getD 86 undef), (a'.tmps.getD 87 undef), (a'.tmps.getD 88 undef), (a'.tmps.getD 89 undef), (a'.tmps.getD 90 undef), (a'.tmps.getD 91 undef), (a'.tmps.getD 92 undef), (a'.tmps.getD 93 undef), (a'.tmps.getD 94 undef), (a'.tmps.getD 95 undef), (a'.tmps.getD 96 undef), (a'.tmps.getD 97 undef), (a'.tmps.getD 98 undef), (a'.tmps.getD 99 undef), (a'.tmps.getD 100 undef), (a'.tmps.getD 101 undef), (a'.tmps.getD 102 undef), (a'.tmps.getD 103 undef), (a'.tmps.getD 104 undef), (a'.tmps.getD 105 undef), (a'.tmps.getD 106 undef), (a'.tmps.getD 107 undef), (a'.tmps.getD 108 undef), (a'.tmps.getD 109 undef), (a'.tmps.getD 110 undef), (a'.tmps.getD 111 undef), (a'.tmps.getD 112 undef), (a'.tmps.getD 113 undef), (a'.tmps.getD 114 undef), (a'.tmps.getD 115 undef), (a'.tmps.getD 116 undef), (a'.tmps.getD 117 undef), (a'.tmps.getD 118 undef), (a'.tmps.getD 119 undef), (a'.tmps.getD 120 undef), (a'.tmps.getD 121 undef), (a'.tmps.getD 122 undef), (a'.tmps.getD 123 undef), (a'.tmps.getD 124 undef), (a'.tmps.getD 125 undef), (a'.tmps.getD 126 undef), (a'.tmps.getD 127 undef), (a'.tmps.getD 128 undef), (a'.tmps.getD 129 undef), (a'.tmps.getD 130 undef), (a'.tmps.getD 131 undef), (a'.tmps.getD 132 undef), (a'.tmps.getD 133 undef), (a'.tmps.getD 134 undef), (a'.tmps.getD 135 undef), (a'.tmps.getD 136 undef), (a'.tmps.getD 137 undef), (a'.tmps.getD 138 undef)], defers := [] } ∧ Box w' w.heap.size #[.int .i64 0, .bool false, .int .i64 0, .string ⟨#[]⟩, .slice none 0 0] ∧ Below w.heap.size w w') (fun _ _ => 0) rfl ?first ?pass
  case pass =>
    rintro a' w' ⟨ha, xr, HB⟩
    obtain ⟨U, hU⟩ : ∃ U : Nat → Value, U = fun i => a'.tmps.getD i undef := ⟨_, rfl⟩
    have ha2 : a' = { tmps := #[U 0, U 1, U 2, U 3, .pointer (some ⟨w.heap.size, 0, none⟩), U 5, U 6, U 7, U 8, U 9, U 10, U 11, U 12, U 13, U 14, U 15, U 16, U 17, U 18, U 19, U 20, U 21, U 22, U 23, U 24, U 25, U 26, U 27, U 28, U 29, U 30, U 31, U 32, U 33, U 34, U 35, U 36, U 37, U 38, U 39, U 40, U 41, U 42, U 43, U 44, U 45, U 46, U 47, U 48, U 49, U 50, U 51, U 52, U 53, U 54, U 55, U 56, U 57, U 58, U 59, U 60, U 61, U 62, U 63, U 64, U 65, U 66, U 67, U 68, U 69, U 70, U 71, U 72, U 73, U 74, U 75, U 76, U 77, U 78, U 79, U 80, U 81, U 82, U 83, U 84, U 85, U 86, U 87, U 88, U 89, U 90, U 91, U 92, U 93, U 94, U 95, U 96, U 97, U 98, U 99, U 100, U 101, U 102, U 103, U 104, U 105, U 106, U 107, U 108, U 109, U 110, U 111, U 112, U 113, U 114, U 115, U 116, U 117, U 118, U 119, U 120, U 121, U 122, U 123, U 124, U 125, U 126, U 127, U 128, U 129, U 130, U 131, U 132, U 133, U 134, U 135, U 136, U 137, U 138], defers := [] } := by rw [hU]; exact ha
    clear hU ha
    subst ha2
    have hbr := xr.cells
    have hfr := xr.free
    go_wp2
    obtain ⟨W7, hW7⟩ : ∃ W7, W7 = (((((w'.setCell ⟨w.heap.size, 0, none⟩ (.int .i64 0)).setCell ⟨w.heap.size, 1, none⟩ (.bool false)).setCell ⟨w.heap.size, 2, none⟩ (.int .i64 0)).setCell ⟨w.heap.size, 3, none⟩ (.string ⟨#[]⟩)).setCell ⟨w.heap.size, 4, none⟩ (.slice none 0 0)) := ⟨_, rfl⟩
    rw [← hW7]
    have HB7 : Below w.heap.size w W7 := by rw [hW7]; exact below_set (below_set (below_set (below_set (below_set HB (by simp) _) (by simp) _) (by simp) _) (by simp) _) (by simp) _
    have xr7 : Box W7 w.heap.size #[.int .i64 0, .bool false, .int .i64 0, .string ⟨#[]⟩, .slice none 0 0] := by rw [hW7]; exact ((((xr.put 0 _).put 1 _).put 2 _).put 3 _).put 4 _
    first
      | refine bodyPost_ret (results_c3 _ rfl rfl (box_load xr7 rfl rfl rfl rfl rfl)) rfl ?_
      | (simp only [Exit.jump]; refine bodyPost_ret (results_c3 _ rfl rfl (box_load xr7 rfl rfl rfl rfl rfl)) rfl ?_)
    exact ⟨rfl, HB7⟩
  case first =>
  go_upto_region 6 with (fail)
  obtain ⟨W2, hW2⟩ : ∃ W2, W2 = (w.alloc (.cells #[.int .i64 0, .bool false, .int .i64 0, .string ⟨#[]⟩, .slice none 0 0] 25)).alloc (.cells #[.int .i64 0, .bool false, .int .i64 0, .string ⟨#[]⟩, .slice none 0 0] 25) := ⟨_, rfl⟩
  rw [← hW2]
  have HB2 : Below w.heap.size w W2 := by rw [hW2]; exact below_more (below_more (Below.refl _ _) _) _
  have hz2 : w.heap.size + 1 < W2.heap.size := by rw [hW2]; simp
  have xr2 : Box W2 w.heap.size #[.int .i64 0, .bool false, .int .i64 0, .string ⟨#[]⟩, .slice none 0 0] := by rw [hW2]; exact (Box.new w _).more _
  have xv2 : Box W2 (w.heap.size + 1) #[.int .i64 0, .bool false, .int .i64 0, .string ⟨#[]⟩, .slice none 0 0] := by rw [hW2]; have h := Box.new (w.alloc (.cells #[.int .i64 0, .bool false, .int .i64 0, .string ⟨#[]⟩, .slice none 0 0] 25)) #[.int .i64 0, .bool false, .int .i64 0, .string ⟨#[]⟩, .slice none 0 0]; simpa using h
  have hbr2 := xr2.cells
  have hbv2 := xv2.cells
  have hfr2 := xr2.free
  have hfv2 := xv2.free
  have hcx := HCI.out W2 HB2
  clear hW2
  go_upto_region 8 with (fail)
  obtain ⟨W3, hW3⟩ : ∃ W3, W3 = W2.setCell ⟨w.heap.size + 1, 0, none⟩ (.int .i64 4) := ⟨_, rfl⟩
  rw [← hW3]
  have HB3 : Below w.heap.size w W3 := by rw [hW3]; exact below_set HB2 (by simp) _
  have hz3 : w.heap.size + 1 < W3.heap.size := by rw [hW3]; simpa using hz2
  have xr3 : Box W3 w.heap.size #[.int .i64 0, .bool false, .int .i64 0, .string ⟨#[]⟩, .slice none 0 0] := by rw [hW3]; exact xr2.off _ _ (by simp)
  have xv3 : Box W3 (w.heap.size + 1) #[.int .i64 4, .bool false, .int .i64 0, .string ⟨#[]⟩, .slice none 0 0] := by rw [hW3]; exact xv2.put 0 _
  have hbr3 := xr3.cells
  have hbv3 := xv3.cells
  have hfr3 := xr3.free
  have hfv3 := xv3.free
  clear hW3 xr2 xv2 hbr2 hbv2 hfr2 hfv2 HB2 hz2
  obtain ⟨m1, hm1⟩ : ∃ m1, m1 = m - (i + 1) := ⟨_, rfl⟩
  rw [← hm1] at hs ⊢
  have hsi : (m1 : Int) < 8 := by omega
  have hsn : ¬ 8 ≤ m1 := by omega
  have hsn2 : ¬ (8 : Int) ≤ (m1 : Int) := by omega
  clear hm1 hsl hcx
  have hmin : min (4 : Int) 7 = 4 := by decide
  go_upto_region 10 with (fail)
  refine wp_goto ?_
  exact ⟨rfl, rfl, xr3.more _, below_more HB3 _⟩

set_option maxRecDepth 100000 in
set_option maxHeartbeats 3200000 in
theorem dec_5_short (A : Option Addr) (bs : List Int) (c : Nat) (i : Nat) (w : World) (hr : ReadsB w A bs) (hi : i < bs.length) (hc : bs.length ≤ c) (hbt : ∀ x ∈ bs, 0 ≤ x ∧ x < 256) (hk : bs.getD i 0 = 5) (hs : bs.length - (i + 1) < 8) :
    Calls Tryd.prog 36 #[.slice A bs.length c, .int .i64 (i : Int)] w fun e w' => e = .returned (.tuple #[.agg #[.int .i64 0, .bool false, .int .i64 0, .string ⟨#[]⟩, .slice none 0 0], .int .i64 0, .int .i64 21]) ∧ Below w.heap.size w w' := by
  obtain ⟨ad, rfl, hcell⟩ := hr.2 (by omega)
  have hci : ∀ W, Below w.heap.size w W → W.cell? (ad.add i) = some (.int .u8 5) := fun W hW => by
    obtain ⟨ad', e, h⟩ := (hr.below hW).2 (by omega)
    cases e
    rw [h i hi, hk]
  have hmx := hr.1
  have hrd := hr.drop c (i + 1) hc
  obtain ⟨m, hm⟩ : ∃ m, m = bs.length := ⟨_, rfl⟩
  have hlr : (bs.drop (i + 1)).length = m - (i + 1) := by rw [List.length_drop, hm]
  (try rw [← hm] at hs)
  rw [← hm] at hi hc hmx ⊢
  have hsl : ∀ W, (Instr.slice 30 (.slice (some ad) m c) (some (.int .i64 ((i : Int) + 1))) none none).run Tryd.prog W = .ok (.slice (cutA (some ad) c (i + 1)) (m - (i + 1)) (c - (i + 1))) W := fun W => slice_from W (some ad) m c (i + 1) (by omega) (by omega)
  generalize cutA (some ad) c (i + 1) = Q at hsl hrd
  have hrs : ∀ x ∈ bs.drop (i + 1), 0 ≤ x ∧ x < 256 := fun x hx => hbt x (List.mem_of_mem_drop hx)
  first
    | generalize bs.drop (i + 1) = rs at hlr hrd hrs hn ⊢
    | generalize bs.drop (i + 1) = rs at hlr hrd hrs ⊢
  have hii : (i : Int) < (m : Int) := by omega
  have hi0 : (0 : Int) ≤ (i : Int) := by omega
  have HM := Aside0.mk hm
  have HR := Aside0.mk hr
  have HRD := Aside0.mk hrd
  have HLR := Aside0.mk hlr
  have HCI := Aside0.mk hci
  clear hm hr hk hcell hrd hlr hci hbt
  go_enter Tryd.func36, Tryd.ntmps36
  go_wp2
  refine wp_scope_jumps 0 (fun a' w' => a' = { tmps := #[(a'.tmps.getD 0 undef), (a'.tmps.getD 1 undef), (a'.tmps.getD 2 undef), (a'.tmps.getD 3 undef), .pointer (some ⟨w.heap.size, 0, none⟩), (a'.tmps.getD 5 undef), (a'.tmps.getD 6 undef), (a'.tmps.getD 7 undef), (a'.tmps.getD 8 undef), (a'.tmps.getD 9 undef), (a'.tmps.getD 10 undef), (a'.tmps.getD 11 undef), (a'.tmps.getD 12 undef), (a'.tmps.getD 13 undef), (a'.tmps.getD 14 undef), (a'.tmps.getD 15 undef), (a'.tmps.getD 16 undef), (a'.tmps.getD 17 undef), (a'.tmps.getD 18 undef), (a'.tmps.getD 19 undef), (a'.tmps.getD 20 undef), (a'.tmps.getD 21 undef), (a'.tmps.getD 22 undef), (a'.tmps.getD 23 undef), (a'.tmps.getD 24 undef), (a'.tmps.getD 25 undef), (a'.tmps.getD 26 undef), (a'.tmps.getD 27 undef), (a'.tmps.getD 28 undef), (a'.tmps.getD 29 undef), (a'.tmps.getD 30 undef), (a'.tmps.getD 31 undef), (a'.tmps.getD 32 undef), (a'.tmps.getD 33 undef), (a'.tmps.getD 34 undef), (a'.tmps.getD 35 undef), (a'.tmps.getD 36 undef), (a'.tmps.getD 37 undef), (a'.tmps.getD 38 undef), (a'.tmps.getD 39 undef), (a'.tmps.getD 40 undef), (a'.tmps.getD 41 undef), (a'.tmps.getD 42 undef), (a'.tmps.getD 43 undef), (a'.tmps.getD 44 undef), (a'.tmps.getD 45 undef), (a'.tmps.getD 46 undef), (a'.tmps.getD 47 undef), (a'.tmps.getD 48 undef), (a'.tmps.getD 49 undef), (a'.tmps.getD 50 undef), (a'.tmps.getD 51 undef), (a'.tmps.getD 52 undef), (a'.tmps.getD 53 undef), (a'.tmps.getD 54 undef), (a'.tmps.getD 55 undef), (a'.tmps.getD 56 undef), (a'.tmps.getD 57 undef), (a'.tmps.getD 58 undef), (a'.tmps.getD 59 undef), (a'.tmps.getD 60 undef), (a'.tmps.getD 61 undef), (a'.tmps.getD 62 undef), (a'.tmps.getD 63 undef), (a'.tmps.getD 64 undef), (a'.tmps.getD 65 undef), (a'.tmps.getD 66 undef), (a'.tmps.getD 67 undef), (a'.tmps.getD 68 undef), (a'.tmps.getD 69 undef), (a'.tmps.getD 70 undef), (a'.tmps.getD 71 undef), (a'.tmps.getD 72 undef), (a'.tmps.getD 73 undef), (a'.tmps.getD 74 undef), (a'.tmps.getD 75 undef), (a'.tmps.getD 76 undef), (a'.tmps.getD 77 undef), (a'.tmps.getD 78 undef), (a'.tmps.getD 79 undef), (a'.tmps.getD 80 undef), (a'.tmps.getD 81 undef), (a'.tmps.getD 82 undef), (a'.tmps.getD 83 undef), (a'.tmps.getD 84 undef), (a'.tmps.getD 85 undef), (a'.tmps.getD 86 undef), (a'.tmps.getD 87 undef), (a'.tmps.getD 88 undef), (a'.tmps.getD 89 undef), (a'.tmps.getD 90 undef), (a'.tmps.getD 91 undef), (a'.tmps.getD 92 undef), (a'.tmps.getD 93 undef), (a'.tmps.getD 94 undef), (a'.tmps.getD 95 undef), (a'.tmps.getD 96 undef), (a'.tmps.getD 97 undef), (a'.tmps.getD 98 undef), (a'.tmps.getD 99 undef), (a'.tmps.getD 100 undef), (a'.tmps.getD 101 undef), (a'.tmps.getD 102 undef), (a'.tmps.getD 103 undef), (a'.tmps.getD 104 undef), (a'.tmps.getD 105 undef), (a'.tmps.getD 106 undef), (a'.tmps.getD 107 undef), (a'.tmps.getD 108 undef), (a'.tmps.getD 109 undef), (a'.tmps.getD 110 undef), (a'.tmps.getD 111 undef), (a'.tmps.getD 112 undef), (a'.tmps.getD 113 undef), (a'.tmps.getD 114 undef), (a'.tmps.getD 115 undef), (a'.tmps.getD 116 undef), (a'.tmps.getD 117 undef), (a'.tmps.getD 118 undef), (a'.tmps.getD 119 undef), (a'.tmps.getD 120 undef), (a'.tmps.getD 121 undef), (a'.tmps.getD 122 undef), (a'.tmps.getD 123 undef), (a'.tmps.getD 124 undef), (a'.tmps.getD 125 undef), (a'.tmps.getD 126 undef), (a'.tmps.getD 127 undef), (a'.tmps.getD 128 undef), (a'.tmps.getD 129 undef), (a'.tmps.getD 130 undef), (a'.tmps.getD 131 undef), (a'.tmps.getD 132 undef), (a'.tmps.getD 133 undef), (a'.tmps.getD 134 undef), (a'.tmps.getD 135 undef), (a'.tmps.getD 136 undef), (a'.tmps.getD 137 undef), (a'.tmps.getD 138 undef)], defers := [] } ∧ Box w' w.heap.size #[.int .i64 0, .bool false, .int .i64 0, .string ⟨#[]⟩, .slice none 0 0] ∧ Below w.heap.size w w') (fun _ _ => 0) rfl ?first ?pass
  case pass =>
    rintro a' w' ⟨ha, xr, HB⟩
    obtain ⟨U, hU⟩ : ∃ U : Nat → Value, U = fun i => a'.tmps.getD i undef := ⟨_, rfl⟩
    have ha2 : a' = { tmps := #[U 0, U 1, U 2, U 3, .pointer (some ⟨w.heap.size, 0, none⟩), U 5, U 6, U 7, U 8, U 9, U 10, U 11, U 12, U 13, U 14, U 15, U 16, U 17, U 18, U 19, U 20, U 21, U 22, U 23, U 24, U 25, U 26, U 27, U 28, U 29, U 30, U 31, U 32, U 33, U 34, U 35, U 36, U 37, U 38, U 39, U 40, U 41, U 42, U 43, U 44, U 45, U 46, U 47, U 48, U 49, U 50, U 51, U 52, U 53, U 54, U 55, U 56, U 57, U 58, U 59, U 60, U 61, U 62, U 63, U 64, U 65, U 66, U 67, U 68, U 69, U 70, U 71, U 72, U 73, U 74, U 75, U 76, U 77, U 78, U 79, U 80, U 81, U 82, U 83, U 84, U 85, U 86, U 87, U 88, U 89, U 90, U 91, U 92, U 93, U 94, U 95, U 96, U 97, U 98, U 99, U 100, U 101, U 102, U 103, U 104, U 105, U 106, U 107, U 108, U 109, U 110, U 111, U 112, U 113, U 114, U 115, U 116, U 117, U 118, U 119, U 120, U 121, U 122, U 123, U 124, U 125, U 126, U 127, U 128, U 129, U 130, U 131, U 132, U 133, U 134, U 135, U 136, U 137, U 138], defers := [] } := by rw [hU]; exact ha
    clear hU ha
    subst ha2
    have hbr := xr.cells
    have hfr := xr.free
    go_wp2
    obtain ⟨W7, hW7⟩ : ∃ W7, W7 = (((((w'.setCell ⟨w.heap.size, 0, none⟩ (.int .i64 0)).setCell ⟨w.heap.size, 1, none⟩ (.bool false)).setCell ⟨w.heap.size, 2, none⟩ (.int .i64 0)).setCell ⟨w.heap.size, 3, none⟩ (.string ⟨#[]⟩)).setCell ⟨w.heap.size, 4, none⟩ (.slice none 0 0)) := ⟨_, rfl⟩
    rw [← hW7]
    have HB7 : Below w.heap.size w W7 := by rw [hW7]; exact below_set (below_set (below_set (below_set (below_set HB (by simp) _) (by simp) _) (by simp) _) (by simp) _) (by simp) _
    have xr7 : Box W7 w.heap.size #[.int .i64 0, .bool false, .int .i64 0, .string ⟨#[]⟩, .slice none 0 0] := by rw [hW7]; exact ((((xr.put 0 _).put 1 _).put 2 _).put 3 _).put 4 _
    first
      | refine bodyPost_ret (results_c3 _ rfl rfl (box_load xr7 rfl rfl rfl rfl rfl)) rfl ?_
      | (simp only [Exit.jump]; refine bodyPost_ret (results_c3 _ rfl rfl (box_load xr7 rfl rfl rfl rfl rfl)) rfl ?_)
    exact ⟨rfl, HB7⟩
  case first =>
  go_upto_region 6 with (fail)
  obtain ⟨W2, hW2⟩ : ∃ W2, W2 = (w.alloc (.cells #[.int .i64 0, .bool false, .int .i64 0, .string ⟨#[]⟩, .slice none 0 0] 25)).alloc (.cells #[.int .i64 0, .bool false, .int .i64 0, .string ⟨#[]⟩, .slice none 0 0] 25) := ⟨_, rfl⟩
  rw [← hW2]
  have HB2 : Below w.heap.size w W2 := by rw [hW2]; exact below_more (below_more (Below.refl _ _) _) _
  have hz2 : w.heap.size + 1 < W2.heap.size := by rw [hW2]; simp
  have xr2 : Box W2 w.heap.size #[.int .i64 0, .bool false, .int .i64 0, .string ⟨#[]⟩, .slice none 0 0] := by rw [hW2]; exact (Box.new w _).more _
  have xv2 : Box W2 (w.heap.size + 1) #[.int .i64 0, .bool false, .int .i64 0, .string ⟨#[]⟩, .slice none 0 0] := by rw [hW2]; have h := Box.new (w.alloc (.cells #[.int .i64 0, .bool false, .int .i64 0, .string ⟨#[]⟩, .slice none 0 0] 25)) #[.int .i64 0, .bool false, .int .i64 0, .string ⟨#[]⟩, .slice none 0 0]; simpa using h
  have hbr2 := xr2.cells
  have hbv2 := xv2.cells
  have hfr2 := xr2.free
  have hfv2 := xv2.free
  have hcx := HCI.out W2 HB2
  clear hW2
  go_upto_region 8 with (fail)
  obtain ⟨W3, hW3⟩ : ∃ W3, W3 = W2.setCell ⟨w.heap.size + 1, 0, none⟩ (.int .i64 5) := ⟨_, rfl⟩
  rw [← hW3]
  have HB3 : Below w.heap.size w W3 := by rw [hW3]; exact below_set HB2 (by simp) _
  have hz3 : w.heap.size + 1 < W3.heap.size := by rw [hW3]; simpa using hz2
  have xr3 : Box W3 w.heap.size #[.int .i64 0, .bool false, .int .i64 0, .string ⟨#[]⟩, .slice none 0 0] := by rw [hW3]; exact xr2.off _ _ (by simp)
  have xv3 : Box W3 (w.heap.size + 1) #[.int .i64 5, .bool false, .int .i64 0, .string ⟨#[]⟩, .slice none 0 0] := by rw [hW3]; exact xv2.put 0 _
  have hbr3 := xr3.cells
  have hbv3 := xv3.cells
  have hfr3 := xr3.free
  have hfv3 := xv3.free
  clear hW3 xr2 xv2 hbr2 hbv2 hfr2 hfv2 HB2 hz2
  obtain ⟨m1, hm1⟩ : ∃ m1, m1 = m - (i + 1) := ⟨_, rfl⟩
  rw [← hm1] at hs ⊢
  have hsi : (m1 : Int) < 8 := by omega
  have hsn : ¬ 8 ≤ m1 := by omega
  have hsn2 : ¬ (8 : Int) ≤ (m1 : Int) := by omega
  clear hm1 hsl hcx
  have hmin : min (5 : Int) 7 = 5 := by decide
  go_upto_region 10 with (fail)
  refine wp_goto ?_
  exact ⟨rfl, rfl, xr3.more _, below_more HB3 _⟩

set_option maxRecDepth 100000 in
set_option maxHeartbeats 3200000 in
theorem dec_6_short (A : Option Addr) (bs : List Int) (c : Nat) (i : Nat) (w : World) (hr : ReadsB w A bs) (hi : i < bs.length) (hc : bs.length ≤ c) (hbt : ∀ x ∈ bs, 0 ≤ x ∧ x < 256) (hk : bs.getD i 0 = 6) (hs : bs.length - (i + 1) < 1) :
    Calls Tryd.prog 36 #[.slice A bs.length c, .int .i64 (i : Int)] w fun e w' => e = .returned (.tuple #[.agg #[.int .i64 0, .bool false, .int .i64 0, .string ⟨#[]⟩, .slice none 0 0], .int .i64 0, .int .i64 21]) ∧ Below w.heap.size w w' := by
  obtain ⟨ad, rfl, hcell⟩ := hr.2 (by omega)
  have hci : ∀ W, Below w.heap.size w W → W.cell? (ad.add i) = some (.int .u8 6) := fun W hW => by
    obtain ⟨ad', e, h⟩ := (hr.below hW).2 (by omega)
    cases e
    rw [h i hi, hk]
  have hmx := hr.1
  have hrd := hr.drop c (i + 1) hc
  obtain ⟨m, hm⟩ : ∃ m, m = bs.length := ⟨_, rfl⟩
  have hlr : (bs.drop (i + 1)).length = m - (i + 1) := by rw [List.length_drop, hm]
  (try rw [← hm] at hs)
  rw [← hm] at hi hc hmx ⊢
  have hsl : ∀ W, (Instr.slice 30 (.slice (some ad) m c) (some (.int .i64 ((i : Int) + 1))) none none).run Tryd.prog W = .ok (.slice (cutA (some ad) c (i + 1)) (m - (i + 1)) (c - (i + 1))) W := fun W => slice_from W (some ad) m c (i + 1) (by omega) (by omega)
  generalize cutA (some ad) c (i + 1) = Q at hsl hrd
  have hrs : ∀ x ∈ bs.drop (i + 1), 0 ≤ x ∧ x < 256 := fun x hx => hbt x (List.mem_of_mem_drop hx)
  first
    | generalize bs.drop (i + 1) = rs at hlr hrd hrs hn ⊢
    | generalize bs.drop (i + 1) = rs at hlr hrd hrs ⊢
  have hii : (i : Int) < (m : Int) := by omega
  have hi0 : (0 : Int) ≤ (i : Int) := by omega
  have HM := Aside0.mk hm
  have HR := Aside0.mk hr
  have HRD := Aside0.mk hrd
  have HLR := Aside0.mk hlr
  have HCI := Aside0.mk hci
  clear hm hr hk hcell hrd hlr hci hbt
  go_enter Tryd.func36, Tryd.ntmps36
  go_wp2
  refine wp_scope_jumps 0 (fun a' w' => a' = { tmps := #[(a'.tmps.getD 0 undef), (a'.tmps.getD 1 undef), (a'.tmps.getD 2 undef), (a'.tmps.getD 3 undef), .pointer (some ⟨w.heap.size, 0, none⟩), (a'.tmps.getD 5 undef), (a'.tmps.getD 6 undef), (a'.tmps.getD 7 undef), (a'.tmps.getD 8 undef), (a'.tmps.getD 9 undef), (a'.tmps.getD 10 undef), (a'.tmps.getD 11 undef), (a'.tmps.getD 12 undef), (a'.tmps.getD 13 undef), (a'.tmps.getD 14 undef), (a'.tmps.getD 15 undef), (a'.tmps.getD 16 undef), (a'.tmps.getD 17 undef), (a'.tmps.getD 18 undef), (a'.tmps.getD 19 undef), (a'.tmps.getD 20 undef), (a'.tmps.getD 21 undef), (a'.tmps.getD 22 undef), (a'.tmps.getD 23 undef), (a'.tmps.getD 24 undef), (a'.tmps.getD 25 undef), (a'.tmps.getD 26 undef), (a'.tmps.getD 27 undef), (a'.tmps.getD 28 undef), (a'.tmps.getD 29 undef), (a'.tmps.getD 30 undef), (a'.tmps.getD 31 undef), (a'.tmps.getD 32 undef), (a'.tmps.getD 33 undef), (a'.tmps.getD 34 undef), (a'.tmps.getD 35 undef), (a'.tmps.getD 36 undef), (a'.tmps.getD 37 undef), (a'.tmps.getD 38 undef), (a'.tmps.getD 39 undef), (a'.tmps.getD 40 undef), (a'.tmps.getD 41 undef), (a'.tmps.getD 42 undef), (a'.tmps.getD 43 undef), (a'.tmps.getD 44 undef), (a'.tmps.getD 45 undef), (a'.tmps.getD 46 undef), (a'.tmps.getD 47 undef), (a'.tmps.getD 48 undef), (a'.tmps.getD 49 undef), (a'.tmps.getD 50 undef), (a'.tmps.getD 51 undef), (a'.tmps.getD 52 undef), (a'.tmps.getD 53 undef), (a'.tmps.getD 54 undef), (a'.tmps.getD 55 undef), (a'.tmps.getD 56 undef), (a'.tmps.getD 57 undef), (a'.tmps.getD 58 undef), (a'.tmps.getD 59 undef), (a'.tmps.getD 60 undef), (a'.tmps.getD 61 undef), (a'.tmps.getD 62 undef), (a'.tmps.getD 63 undef), (a'.tmps.getD 64 undef), (a'.tmps.getD 65 undef), (a'.tmps.getD 66 undef), (a'.tmps.getD 67 undef), (a'.tmps.getD 68 undef), (a'.tmps.getD 69 undef), (a'.tmps.getD 70 undef), (a'.tmps.getD 71 undef), (a'.tmps.getD 72 undef), (a'.tmps.getD 73 undef), (a'.tmps.getD 74 undef), (a'.tmps.getD 75 undef), (a'.tmps.getD 76 undef), (a'.tmps.getD 77 undef), (a'.tmps.getD 78 undef), (a'.tmps.getD 79 undef), (a'.tmps.getD 80 undef), (a'.tmps.getD 81 undef), (a'.tmps.getD 82 undef), (a'.tmps.getD 83 undef), (a'.tmps.getD 84 undef), (a'.tmps.getD 85 undef), (a'.tmps.getD 86 undef), (a'.tmps.getD 87 undef), (a'.tmps.getD 88 undef), (a'.tmps.getD 89 undef), (a'.tmps.getD 90 undef), (a'.tmps.getD 91 undef), (a'.tmps.getD 92 undef), (a'.tmps.getD 93 undef), (a'.tmps.getD 94 undef), (a'.tmps.getD 95 undef), (a'.tmps.getD 96 undef), (a'.tmps.getD 97 undef), (a'.tmps.getD 98 undef), (a'.tmps.getD 99 undef), (a'.tmps.getD 100 undef), (a'.tmps.getD 101 undef), (a'.tmps.getD 102 undef), (a'.tmps.getD 103 undef), (a'.tmps.getD 104 undef), (a'.tmps.getD 105 undef), (a'.tmps.getD 106 undef), (a'.tmps.getD 107 undef), (a'.tmps.getD 108 undef), (a'.tmps.getD 109 undef), (a'.tmps.getD 110 undef), (a'.tmps.getD 111 undef), (a'.tmps.getD 112 undef), (a'.tmps.getD 113 undef), (a'.tmps.getD 114 undef), (a'.tmps.getD 115 undef), (a'.tmps.getD 116 undef), (a'.tmps.getD 117 undef), (a'.tmps.getD 118 undef), (a'.tmps.getD 119 undef), (a'.tmps.getD 120 undef), (a'.tmps.getD 121 undef), (a'.tmps.getD 122 undef), (a'.tmps.getD 123 undef), (a'.tmps.getD 124 undef), (a'.tmps.getD 125 undef), (a'.tmps.getD 126 undef), (a'.tmps.getD 127 undef), (a'.tmps.getD 128 undef), (a'.tmps.getD 129 undef), (a'.tmps.getD 130 undef), (a'.tmps.getD 131 undef), (a'.tmps.getD 132 undef), (a'.tmps.getD 133 undef), (a'.tmps.getD 134 undef), (a'.tmps.getD 135 undef), (a'.tmps.getD 136 undef), (a'.tmps.getD 137 undef), (a'.tmps.getD 138 undef)], defers := [] } ∧ Box w' w.heap.size #[.int .i64 0, .bool false, .int .i64 0, .string ⟨#[]⟩, .slice none 0 0] ∧ Below w.heap.size w w') (fun _ _ => 0) rfl ?first ?pass
  case pass =>
    rintro a' w' ⟨ha, xr, HB⟩
    obtain ⟨U, hU⟩ : ∃ U : Nat → Value, U = fun i => a'.tmps.getD i undef := ⟨_, rfl⟩
    have ha2 : a' = { tmps := #[U 0, U 1, U 2, U 3, .pointer (some ⟨w.heap.size, 0, none⟩), U 5, U 6, U 7, U 8, U 9, U 10, U 11, U 12, U 13, U 14, U 15, U 16, U 17, U 18, U 19, U 20, U 21, U 22, U 23, U 24, U 25, U 26, U 27, U 28, U 29, U 30, U 31, U 32, U 33, U 34, U 35, U 36, U 37, U 38, U 39, U 40, U 41, U 42, U 43, U 44, U 45, U 46, U 47, U 48, U 49, U 50, U 51, U 52, U 53, U 54, U 55, U 56, U 57, U 58, U 59, U 60, U 61, U 62, U 63, U 64, U 65, U 66, U 67, U 68, U 69, U 70, U 71, U 72, U 73, U 74, U 75, U 76, U 77, U 78, U 79, U 80, U 81, U 82, U 83, U 84, U 85, U 86, U 87, U 88, U 89, U 90, U 91, U 92, U 93, U 94, U 95, U 96, U 97, U 98, U 99, U 100, U 101, U 102, U 103, U 104, U 105, U 106, U 107, U 108, U 109, U 110, U 111, U 112, U 113, U 114, U 115, U 116, U 117, U 118, U 119, U 120, U 121, U 122, U 123, U 124, U 125, U 126, U 127, U 128, U 129, U 130, U 131, U 132, U 133, U 134, U 135, U 136, U 137, U 138], defers := [] } := by rw [hU]; exact ha
    clear hU ha
    subst ha2
    have hbr := xr.cells
    have hfr := xr.free
    go_wp2
    obtain ⟨W7, hW7⟩ : ∃ W7, W7 = (((((w'.setCell ⟨w.heap.size, 0, none⟩ (.int .i64 0)).setCell ⟨w.heap.size, 1, none⟩ (.bool false)).setCell ⟨w.heap.size, 2, none⟩ (.int .i64 0)).setCell ⟨w.heap.size, 3, none⟩ (.string ⟨#[]⟩)).setCell ⟨w.heap.size, 4, none⟩ (.slice none 0 0)) := ⟨_, rfl⟩
    rw [← hW7]
    have HB7 : Below w.heap.size w W7 := by rw [hW7]; exact below_set (below_set (below_set (below_set (below_set HB (by simp) _) (by simp) _) (by simp) _) (by simp) _) (by simp) _
    have xr7 : Box W7 w.heap.size #[.int .i64 0, .bool false, .int .i64 0, .string ⟨#[]⟩, .slice none 0 0] := by rw [hW7]; exact ((((xr.put 0 _).put 1 _).put 2 _).put 3 _).put 4 _
    first
      | refine bodyPost_ret (results_c3 _ rfl rfl (box_load xr7 rfl rfl rfl rfl rfl)) rfl ?_
      | (simp only [Exit.jump]; refine bodyPost_ret (results_c3 _ rfl rfl (box_load xr7 rfl rfl rfl rfl rfl)) rfl ?_)
    exact ⟨rfl, HB7⟩
  case first =>
  go_upto_region 6 with (fail)
  obtain ⟨W2, hW2⟩ : ∃ W2, W2 = (w.alloc (.cells #[.int .i64 0, .bool false, .int .i64 0, .string ⟨#[]⟩, .slice none 0 0] 25)).alloc (.cells #[.int .i64 0, .bool false, .int .i64 0, .string ⟨#[]⟩, .slice none 0 0] 25) := ⟨_, rfl⟩
  rw [← hW2]
  have HB2 : Below w.heap.size w W2 := by rw [hW2]; exact below_more (below_more (Below.refl _ _) _) _
  have hz2 : w.heap.size + 1 < W2.heap.size := by rw [hW2]; simp
  have xr2 : Box W2 w.heap.size #[.int .i64 0, .bool false, .int .i64 0, .string ⟨#[]⟩, .slice none 0 0] := by rw [hW2]; exact (Box.new w _).more _
  have xv2 : Box W2 (w.heap.size + 1) #[.int .i64 0, .bool false, .int .i64 0, .string ⟨#[]⟩, .slice none 0 0] := by rw [hW2]; have h := Box.new (w.alloc (.cells #[.int .i64 0, .bool false, .int .i64 0, .string ⟨#[]⟩, .slice none 0 0] 25)) #[.int .i64 0, .bool false, .int .i64 0, .string ⟨#[]⟩, .slice none 0 0]; simpa using h
  have hbr2 := xr2.cells
  have hbv2 := xv2.cells
  have hfr2 := xr2.free
  have hfv2 := xv2.free
  have hcx := HCI.out W2 HB2
  clear hW2
  go_upto_region 8 with (fail)
  obtain ⟨W3, hW3⟩ : ∃ W3, W3 = W2.setCell ⟨w.heap.size + 1, 0, none⟩ (.int .i64 6) := ⟨_, rfl⟩
  rw [← hW3]
  have HB3 : Below w.heap.size w W3 := by rw [hW3]; exact below_set HB2 (by simp) _
  have hz3 : w.heap.size + 1 < W3.heap.size := by rw [hW3]; simpa using hz2
  have xr3 : Box W3 w.heap.size #[.int .i64 0, .bool false, .int .i64 0, .string ⟨#[]⟩, .slice none 0 0] := by rw [hW3]; exact xr2.off _ _ (by simp)
  have xv3 : Box W3 (w.heap.size + 1) #[.int .i64 6, .bool false, .int .i64 0, .string ⟨#[]⟩, .slice none 0 0] := by rw [hW3]; exact xv2.put 0 _
  have hbr3 := xr3.cells
  have hbv3 := xv3.cells
  have hfr3 := xr3.free
  have hfv3 := xv3.free
  clear hW3 xr2 xv2 hbr2 hbv2 hfr2 hfv2 HB2 hz2
  obtain ⟨m1, hm1⟩ : ∃ m1, m1 = m - (i + 1) := ⟨_, rfl⟩
  rw [← hm1] at hs ⊢
  have hsi : (m1 : Int) < 1 := by omega
  have hsn : ¬ 1 ≤ m1 := by omega
  have hsn2 : ¬ (1 : Int) ≤ (m1 : Int) := by omega
  clear hm1 hsl hcx
  have hmin : min (6 : Int) 7 = 6 := by decide
  go_upto_region 10 with (fail)
  refine wp_goto ?_
  exact ⟨rfl, rfl, xr3.more _, below_more HB3 _⟩

set_option maxRecDepth 100000 in
set_option maxHeartbeats 3200000 in
theorem dec_over (kk : Int) (A : Option Addr) (bs : List Int) (c : Nat) (i : Nat) (w : World) (hr : ReadsB w A bs) (hi : i < bs.length) (hc : bs.length ≤ c) (hbt : ∀ x ∈ bs, 0 ≤ x ∧ x < 256) (hk : bs.getD i 0 = kk) (hover : 6 < kk) :
    Calls Tryd.prog 36 #[.slice A bs.length c, .int .i64 (i : Int)] w fun e w' => e = .returned (.tuple #[.agg #[.int .i64 0, .bool false, .int .i64 0, .string ⟨#[]⟩, .slice none 0 0], .int .i64 0, .int .i64 21]) ∧ Below w.heap.size w w' := by
  have hb := hbt (bs.getD i 0) (by rw [List.getD_eq_getElem?_getD, List.getElem?_eq_getElem hi]; exact List.getElem_mem _)
  rw [hk] at hb
  obtain ⟨hb0, hb1⟩ := hb
  have hkw : IntKind.i64.wrap kk = kk := by rw [IntKind.wrap_i64]; omega
  obtain ⟨ad, rfl, hcell⟩ := hr.2 (by omega)
  have hci : ∀ W, Below w.heap.size w W → W.cell? (ad.add i) = some (.int .u8 kk) := fun W hW => by
    obtain ⟨ad', e, h⟩ := (hr.below hW).2 (by omega)
    cases e
    rw [h i hi, hk]
  have hmx := hr.1
  have hrd := hr.drop c (i + 1) hc
  obtain ⟨m, hm⟩ : ∃ m, m = bs.length := ⟨_, rfl⟩
  have hlr : (bs.drop (i + 1)).length = m - (i + 1) := by rw [List.length_drop, hm]
  (try rw [← hm] at hs)
  rw [← hm] at hi hc hmx ⊢
  have hsl : ∀ W, (Instr.slice 30 (.slice (some ad) m c) (some (.int .i64 ((i : Int) + 1))) none none).run Tryd.prog W = .ok (.slice (cutA (some ad) c (i + 1)) (m - (i + 1)) (c - (i + 1))) W := fun W => slice_from W (some ad) m c (i + 1) (by omega) (by omega)
  generalize cutA (some ad) c (i + 1) = Q at hsl hrd
  have hrs : ∀ x ∈ bs.drop (i + 1), 0 ≤ x ∧ x < 256 := fun x hx => hbt x (List.mem_of_mem_drop hx)
  first
    | generalize bs.drop (i + 1) = rs at hlr hrd hrs hn ⊢
    | generalize bs.drop (i + 1) = rs at hlr hrd hrs ⊢
  have hii : (i : Int) < (m : Int) := by omega
  have hi0 : (0 : Int) ≤ (i : Int) := by omega
  have HM := Aside0.mk hm
  have HR := Aside0.mk hr
  have HRD := Aside0.mk hrd
  have HLR := Aside0.mk hlr
  have HCI := Aside0.mk hci
  clear hm hr hk hcell hrd hlr hci hbt
  go_enter Tryd.func36, Tryd.ntmps36
  go_wp2
  refine wp_scope_jumps 0 (fun a' w' => a' = { tmps := #[(a'.tmps.getD 0 undef), (a'.tmps.getD 1 undef), (a'.tmps.getD 2 undef), (a'.tmps.getD 3 undef), .pointer (some ⟨w.heap.size, 0, none⟩), (a'.tmps.getD 5 undef), (a'.tmps.getD 6 undef), (a'.tmps.getD 7 undef), (a'.tmps.getD 8 undef), (a'.tmps.getD 9 undef), (a'.tmps.getD 10 undef), (a'.tmps.getD 11 undef), (a'.tmps.getD 12 undef), (a'.tmps.getD 13 undef), (a'.tmps.getD 14 undef), (a'.tmps.getD 15 undef), (a'.tmps.getD 16 undef), (a'.tmps.getD 17 undef), (a'.tmps.getD 18 undef), (a'.tmps.getD 19 undef), (a'.tmps.getD 20 undef), (a'.tmps.getD 21 undef), (a'.tmps.getD 22 undef), (a'.tmps.getD 23 undef), (a'.tmps.getD 24 undef), (a'.tmps.getD 25 undef), (a'.tmps.getD 26 undef), (a'.tmps.getD 27 undef), (a'.tmps.getD 28 undef), (a'.tmps.getD 29 undef), (a'.tmps.getD 30 undef), (a'.tmps.getD 31 undef), (a'.tmps.getD 32 undef), (a'.tmps.getD 33 undef), (a'.tmps.getD 34 undef), (a'.tmps.getD 35 undef), (a'.tmps.getD 36 undef), (a'.tmps.getD 37 undef), (a'.tmps.getD 38 undef), (a'.tmps.getD 39 undef), (a'.tmps.getD 40 undef), (a'.tmps.getD 41 undef), (a'.tmps.getD 42 undef), (a'.tmps.getD 43 undef), (a'.tmps.getD 44 undef), (a'.tmps.getD 45 undef), (a'.tmps.getD 46 undef), (a'.tmps.getD 47 undef), (a'.tmps.getD 48 undef), (a'.tmps.getD 49 undef), (a'.tmps.getD 50 undef), (a'.tmps.getD 51 undef), (a'.tmps.getD 52 undef), (a'.tmps.getD 53 undef), (a'.tmps.getD 54 undef), (a'.tmps.getD 55 undef), (a'.tmps.getD 56 undef), (a'.tmps.getD 57 undef), (a'.tmps.getD 58 undef), (a'.tmps.getD 59 undef), (a'.tmps.getD 60 undef), (a'.tmps.getD 61 undef), (a'.tmps.getD 62 undef), (a'.tmps.getD 63 undef), (a'.tmps.getD 64 undef), (a'.tmps.getD 65 undef), (a'.tmps.getD 66 undef), (a'.tmps.getD 67 undef), (a'.tmps.getD 68 undef), (a'.tmps.getD 69 undef), (a'.tmps.getD 70 undef), (a'.tmps.getD 71 undef), (a'.tmps.getD 72 undef), (a'.tmps.getD 73 undef), (a'.tmps.getD 74 undef), (a'.tmps.getD 75 undef), (a'.tmps.getD 76 undef), (a'.tmps.getD 77 undef), (a'.tmps.getD 78 undef), (a'.tmps.getD 79 undef), (a'.tmps.getD 80 undef), (a'.tmps.getD 81 undef), (a'.tmps.getD 82 undef), (a'.tmps.getD 83 undef), (a'.tmps.getD 84 undef), (a'.tmps.getD 85 undef), (a'.tmps.getD 86 undef), (a'.tmps.getD 87 undef), (a'.tmps.getD 88 undef), (a'.tmps.getD 89 undef), (a'.tmps.getD 90 undef), (a'.tmps.getD 91 undef), (a'.tmps.getD 92 undef), (a'.tmps.getD 93 undef), (a'.tmps.getD 94 undef), (a'.tmps.getD 95 undef), (a'.tmps.getD 96 undef), (a'.tmps.getD 97 undef), (a'.tmps.getD 98 undef), (a'.tmps.getD 99 undef), (a'.tmps.getD 100 undef), (a'.tmps.getD 101 undef), (a'.tmps.getD 102 undef), (a'.tmps.getD 103 undef), (a'.tmps.getD 104 undef), (a'.tmps.getD 105 undef), (a'.tmps.getD 106 undef), (a'.tmps.getD 107 undef), (a'.tmps.getD 108 undef), (a'.tmps.getD 109 undef), (a'.tmps.getD 110 undef), (a'.tmps.getD 111 undef), (a'.tmps.getD 112 undef), (a'.tmps.getD 113 undef), (a'.tmps.getD 114 undef), (a'.tmps.getD 115 undef), (a'.tmps.getD 116 undef), (a'.tmps.getD 117 undef), (a'.tmps.getD 118 undef), (a'.tmps.getD 119 undef), (a'.tmps.getD 120 undef), (a'.tmps.getD 121 undef), (a'.tmps.getD 122 undef), (a'.tmps.getD 123 undef), (a'.tmps.getD 124 undef), (a'.tmps.getD 125 undef), (a'.tmps.getD 126 undef), (a'.tmps.getD 127 undef), (a'.tmps.getD 128 undef), (a'.tmps.getD 129 undef), (a'.tmps.getD 130 undef), (a'.tmps.getD 131 undef), (a'.tmps.getD 132 undef), (a'.tmps.getD 133 undef), (a'.tmps.getD 134 undef), (a'.tmps.getD 135 undef), (a'.tmps.getD 136 undef), (a'.tmps.getD 137 undef), (a'.tmps.getD 138 undef)], defers := [] } ∧ Box w' w.heap.size #[.int .i64 0, .bool false, .int .i64 0, .string ⟨#[]⟩, .slice none 0 0] ∧ Below w.heap.size w w') (fun _ _ => 0) rfl ?first ?pass
  case pass =>
    rintro a' w' ⟨ha, xr, HB⟩
    obtain ⟨U, hU⟩ : ∃ U : Nat → Value, U = fun i => a'.tmps.getD i undef := ⟨_, rfl⟩
    have ha2 : a' = { tmps := #[U 0, U 1, U 2, U 3, .pointer (some ⟨w.heap.size, 0, none⟩), U 5, U 6, U 7, U 8, U 9, U 10, U 11, U 12, U 13, U 14, U 15, U 16, U 17, U 18, U 19, U 20, U 21, U 22, U 23, U 24, U 25, U 26, U 27, U 28, U 29, U 30, U 31, U 32, U 33, U 34, U 35, U 36, U 37, U 38, U 39, U 40, U 41, U 42, U 43, U 44, U 45, U 46, U 47, U 48, U 49, U 50, U 51, U 52, U 53, U 54, U 55, U 56, U 57, U 58, U 59, U 60, U 61, U 62, U 63, U 64, U 65, U 66, U 67, U 68, U 69, U 70, U 71, U 72, U 73, U 74, U 75, U 76, U 77, U 78, U 79, U 80, U 81, U 82, U 83, U 84, U 85, U 86, U 87, U 88, U 89, U 90, U 91, U 92, U 93, U 94, U 95, U 96, U 97, U 98, U 99, U 100, U 101, U 102, U 103, U 104, U 105, U 106, U 107, U 108, U 109, U 110, U 111, U 112, U 113, U 114, U 115, U 116, U 117, U 118, U 119, U 120, U 121, U 122, U 123, U 124, U 125, U 126, U 127, U 128, U 129, U 130, U 131, U 132, U 133, U 134, U 135, U 136, U 137, U 138], defers := [] } := by rw [hU]; exact ha
    clear hU ha
    subst ha2
    have hbr := xr.cells
    have hfr := xr.free
    go_wp2
    obtain ⟨W7, hW7⟩ : ∃ W7, W7 = (((((w'.setCell ⟨w.heap.size, 0, none⟩ (.int .i64 0)).setCell ⟨w.heap.size, 1, none⟩ (.bool false)).setCell ⟨w.heap.size, 2, none⟩ (.int .i64 0)).setCell ⟨w.heap.size, 3, none⟩ (.string ⟨#[]⟩)).setCell ⟨w.heap.size, 4, none⟩ (.slice none 0 0)) := ⟨_, rfl⟩
    rw [← hW7]
    have HB7 : Below w.heap.size w W7 := by rw [hW7]; exact below_set (below_set (below_set (below_set (below_set HB (by simp) _) (by simp) _) (by simp) _) (by simp) _) (by simp) _
    have xr7 : Box W7 w.heap.size #[.int .i64 0, .bool false, .int .i64 0, .string ⟨#[]⟩, .slice none 0 0] := by rw [hW7]; exact ((((xr.put 0 _).put 1 _).put 2 _).put 3 _).put 4 _
    first
      | refine bodyPost_ret (results_c3 _ rfl rfl (box_load xr7 rfl rfl rfl rfl rfl)) rfl ?_
      | (simp only [Exit.jump]; refine bodyPost_ret (results_c3 _ rfl rfl (box_load xr7 rfl rfl rfl rfl rfl)) rfl ?_)
    exact ⟨rfl, HB7⟩
  case first =>
  go_upto_region 6 with (fail)
  obtain ⟨W2, hW2⟩ : ∃ W2, W2 = (w.alloc (.cells #[.int .i64 0, .bool false, .int .i64 0, .string ⟨#[]⟩, .slice none 0 0] 25)).alloc (.cells #[.int .i64 0, .bool false, .int .i64 0, .string ⟨#[]⟩, .slice none 0 0] 25) := ⟨_, rfl⟩
  rw [← hW2]
  have HB2 : Below w.heap.size w W2 := by rw [hW2]; exact below_more (below_more (Below.refl _ _) _) _
  have hz2 : w.heap.size + 1 < W2.heap.size := by rw [hW2]; simp
  have xr2 : Box W2 w.heap.size #[.int .i64 0, .bool false, .int .i64 0, .string ⟨#[]⟩, .slice none 0 0] := by rw [hW2]; exact (Box.new w _).more _
  have xv2 : Box W2 (w.heap.size + 1) #[.int .i64 0, .bool false, .int .i64 0, .string ⟨#[]⟩, .slice none 0 0] := by rw [hW2]; have h := Box.new (w.alloc (.cells #[.int .i64 0, .bool false, .int .i64 0, .string ⟨#[]⟩, .slice none 0 0] 25)) #[.int .i64 0, .bool false, .int .i64 0, .string ⟨#[]⟩, .slice none 0 0]; simpa using h
  have hbr2 := xr2.cells
  have hbv2 := xv2.cells
  have hfr2 := xr2.free
  have hfv2 := xv2.free
  have hcx := HCI.out W2 HB2
  clear hW2
  go_upto_region 8 with (fail)
  obtain ⟨W3, hW3⟩ : ∃ W3, W3 = W2.setCell ⟨w.heap.size + 1, 0, none⟩ (.int .i64 kk) := ⟨_, rfl⟩
  rw [← hW3]
  have HB3 : Below w.heap.size w W3 := by rw [hW3]; exact below_set HB2 (by simp) _
  have hz3 : w.heap.size + 1 < W3.heap.size := by rw [hW3]; simpa using hz2
  have xr3 : Box W3 w.heap.size #[.int .i64 0, .bool false, .int .i64 0, .string ⟨#[]⟩, .slice none 0 0] := by rw [hW3]; exact xr2.off _ _ (by simp)
  have xv3 : Box W3 (w.heap.size + 1) #[.int .i64 kk, .bool false, .int .i64 0, .string ⟨#[]⟩, .slice none 0 0] := by rw [hW3]; exact xv2.put 0 _
  have hbr3 := xr3.cells
  have hbv3 := xv3.cells
  have hfr3 := xr3.free
  have hfv3 := xv3.free
  clear hW3 xr2 xv2 hbr2 hbv2 hfr2 hfv2 HB2 hz2
  clear hsl hcx
  have hmin : min kk 7 = 7 := by omega
  have h7a : (7 : Int) ≤ kk := by omega
  have h7b : ¬ kk < 7 := by omega
  go_upto_region 10 with (fail)
  refine wp_goto ?_
  exact ⟨rfl, rfl, xr3.more _, below_more HB3 _⟩

set_option maxRecDepth 100000 in
set_option maxHeartbeats 3200000 in
theorem dec_1_not (A : Option Addr) (bs : List Int) (c : Nat) (i : Nat) (w : World) (hr : ReadsB w A bs) (hi : i < bs.length) (hc : bs.length ≤ c) (hbt : ∀ x ∈ bs, 0 ≤ x ∧ x < 256) (hk : bs.getD i 0 = 1) (hs : 1 ≤ bs.length - (i + 1)) (hn : 1 < beI ((bs.drop (i + 1)).take 1)) :
    Calls Tryd.prog 36 #[.slice A bs.length c, .int .i64 (i : Int)] w fun e w' => e = .returned (.tuple #[.agg #[.int .i64 0, .bool false, .int .i64 0, .string ⟨#[]⟩, .slice none 0 0], .int .i64 0, .int .i64 21]) ∧ Below w.heap.size w w' := by
  obtain ⟨ad, rfl, hcell⟩ := hr.2 (by omega)
  have hci : ∀ W, Below w.heap.size w W → W.cell? (ad.add i) = some (.int .u8 1) := fun W hW => by
    obtain ⟨ad', e, h⟩ := (hr.below hW).2 (by omega)
    cases e
    rw [h i hi, hk]
  have hmx := hr.1
  have hrd := hr.drop c (i + 1) hc
  obtain ⟨m, hm⟩ : ∃ m, m = bs.length := ⟨_, rfl⟩
  have hlr : (bs.drop (i + 1)).length = m - (i + 1) := by rw [List.length_drop, hm]
  (try rw [← hm] at hs)
  rw [← hm] at hi hc hmx ⊢
  have hsl : ∀ W, (Instr.slice 30 (.slice (some ad) m c) (some (.int .i64 ((i : Int) + 1))) none none).run Tryd.prog W = .ok (.slice (cutA (some ad) c (i + 1)) (m - (i + 1)) (c - (i + 1))) W := fun W => slice_from W (some ad) m c (i + 1) (by omega) (by omega)
  generalize cutA (some ad) c (i + 1) = Q at hsl hrd
  have hrs : ∀ x ∈ bs.drop (i + 1), 0 ≤ x ∧ x < 256 := fun x hx => hbt x (List.mem_of_mem_drop hx)
  first
    | generalize bs.drop (i + 1) = rs at hlr hrd hrs hn ⊢
    | generalize bs.drop (i + 1) = rs at hlr hrd hrs ⊢
  have hii : (i : Int) < (m : Int) := by omega
  have hi0 : (0 : Int) ≤ (i : Int) := by omega
  have HM := Aside0.mk hm
  have HR := Aside0.mk hr
  have HRD := Aside0.mk hrd
  have HLR := Aside0.mk hlr
  have HCI := Aside0.mk hci
  clear hm hr hk hcell hrd hlr hci hbt
  go_enter Tryd.func36, Tryd.ntmps36
  go_wp2
  refine wp_scope_jumps 0 (fun a' w' => a' = { tmps := #[(a'.tmps.getD 0 undef), (a'.tmps.getD 1 undef), (a'.tmps.getD 2 undef), (a'.tmps.getD 3 undef), .pointer (some ⟨w.heap.size, 0, none⟩), (a'.tmps.getD 5 undef), (a'.tmps.getD 6 undef), (a'.tmps.getD 7 undef), (a'.tmps.getD 8 undef), (a'.tmps.getD 9 undef), (a'.tmps.getD 10 undef), (a'.tmps.getD 11 undef), (a'.tmps.getD 12 undef), (a'.tmps.getD 13 undef), (a'.tmps.getD 14 undef), (a'.tmps.getD 15 undef), (a'.tmps.getD 16 undef), (a'.tmps.getD 17 undef), (a'.tmps.getD 18 undef), (a'.tmps.getD 19 undef), (a'.tmps.getD 20 undef), (a'.tmps.getD 21 undef), (a'.tmps.getD 22 undef), (a'.tmps.getD 23 undef), (a'.tmps.getD 24 undef), (a'.tmps.getD 25 undef), (a'.tmps.getD 26 undef), (a'.tmps.getD 27 undef), (a'.tmps.getD 28 undef), (a'.tmps.getD 29 undef), (a'.tmps.getD 30 undef), (a'.tmps.getD 31 undef), (a'.tmps.getD 32 undef), (a'.tmps.getD 33 undef), (a'.tmps.getD 34 undef), (a'.tmps.getD 35 undef), (a'.tmps.getD 36 undef), (a'.tmps.getD 37 undef), (a'.tmps.getD 38 undef), (a'.tmps.getD 39 undef), (a'.tmps.getD 40 undef), (a'.tmps.getD 41 undef), (a'.tmps.getD 42 undef), (a'.tmps.getD 43 undef), (a'.tmps.getD 44 undef), (a'.tmps.getD 45 undef), (a'.tmps.getD 46 undef), (a'.tmps.getD 47 undef), (a'.tmps.getD 48 undef), (a'.tmps.getD 49 undef), (a'.tmps.getD 50 undef), (a'.tmps.getD 51 undef), (a'.tmps.getD 52 undef), (a'.tmps.getD 53 undef), (a'.tmps.getD 54 undef), (a'.tmps.getD 55 undef), (a'.tmps.getD 56 undef), (a'.tmps.getD 57 undef), (a'.tmps.getD 58 undef), (a'.tmps.getD 59 undef), (a'.tmps.getD 60 undef), (a'.tmps.getD 61 undef), (a'.tmps.getD 62 undef), (a'.tmps.getD 63 undef), (a'.tmps.getD 64 undef), (a'.tmps.getD 65 undef), (a'.tmps.getD 66 undef), (a'.tmps.getD 67 undef), (a'.tmps.getD 68 undef), (a'.tmps.getD 69 undef), (a'.tmps.getD 70 undef), (a'.tmps.getD 71 undef), (a'.tmps.getD 72 undef), (a'.tmps.getD 73 undef), (a'.tmps.getD 74 undef), (a'.tmps.getD 75 undef), (a'.tmps.getD 76 undef), (a'.tmps.getD 77 undef), (a'.tmps.getD 78 undef), (a'.tmps.getD 79 undef), (a'.tmps.getD 80 undef), (a'.tmps.getD 81 undef), (a'.tmps.getD 82 undef), (a'.tmps.getD 83 undef), (a'.tmps.getD 84 undef), (a'.tmps.getD 85 undef), (a'.tmps.getD 86 undef), (a'.tmps.getD 87 undef), (a'.tmps.getD 88 undef), (a'.tmps.getD 89 undef), (a'.tmps.getD 90 undef), (a'.tmps.getD 91 undef), (a'.tmps.getD 92 undef), (a'.tmps.getD 93 undef), (a'.tmps.getD 94 undef), (a'.tmps.getD 95 undef), (a'.tmps.getD 96 undef), (a'.tmps.getD 97 undef), (a'.tmps.getD 98 undef), (a'.tmps.getD 99 undef), (a'.tmps.getD 100 undef), (a'.tmps.getD 101 undef), (a'.tmps.getD 102 undef), (a'.tmps.getD 103 undef), (a'.tmps.getD 104 undef), (a'.tmps.getD 105 undef), (a'.tmps.getD 106 undef), (a'.tmps.getD 107 undef), (a'.tmps.getD 108 undef), (a'.tmps.getD 109 undef), (a'.tmps.getD 110 undef), (a'.tmps.getD 111 undef), (a'.tmps.getD 112 undef), (a'.tmps.getD 113 undef), (a'.tmps.getD 114 undef), (a'.tmps.getD 115 undef), (a'.tmps.getD 116 undef), (a'.tmps.getD 117 undef), (a'.tmps.getD 118 undef), (a'.tmps.getD 119 undef), (a'.tmps.getD 120 undef), (a'.tmps.getD 121 undef), (a'.tmps.getD 122 undef), (a'.tmps.getD 123 undef), (a'.tmps.getD 124 undef), (a'.tmps.getD 125 undef), (a'.tmps.getD 126 undef), (a'.tmps.getD 127 undef), (a'.tmps.getD 128 undef), (a'.tmps.getD 129 undef), (a'.tmps.getD 130 undef), (a'.tmps.getD 131 undef), (a'.tmps.getD 132 undef), (a'.tmps.getD 133 undef), (a'.tmps.getD 134 undef), (a'.tmps.getD 135 undef), (a'.tmps.getD 136 undef), (a'.tmps.getD 137 undef), (a'.tmps.getD 138 undef)], defers := [] } ∧ Box w' w.heap.size #[.int .i64 0, .bool false, .int .i64 0, .string ⟨#[]⟩, .slice none 0 0] ∧ Below w.heap.size w w') (fun _ _ => 0) rfl ?first ?pass
  case pass =>
    rintro a' w' ⟨ha, xr, HB⟩
    obtain ⟨U, hU⟩ : ∃ U : Nat → Value, U = fun i => a'.tmps.getD i undef := ⟨_, rfl⟩
    have ha2 : a' = { tmps := #[U 0, U 1, U 2, U 3, .pointer (some ⟨w.heap.size, 0, none⟩), U 5, U 6, U 7, U 8, U 9, U 10, U 11, U 12, U 13, U 14, U 15, U 16, U 17, U 18, U 19, U 20, U 21, U 22, U 23, U 24, U 25, U 26, U 27, U 28, U 29, U 30, U 31, U 32, U 33, U 34, U 35, U 36, U 37, U 38, U 39, U 40, U 41, U 42, U 43, U 44, U 45, U 46, U 47, U 48, U 49, U 50, U 51, U 52, U 53, U 54, U 55, U 56, U 57, U 58, U 59, U 60, U 61, U 62, U 63, U 64, U 65, U 66, U 67, U 68, U 69, U 70, U 71, U 72, U 73, U 74, U 75, U 76, U 77, U 78, U 79, U 80, U 81, U 82, U 83, U 84, U 85, U 86, U 87, U 88, U 89, U 90, U 91, U 92, U 93, U 94, U 95, U 96, U 97, U 98, U 99, U 100, U 101, U 102, U 103, U 104, U 105, U 106, U 107, U 108, U 109, U 110, U 111, U 112, U 113, U 114, U 115, U 116, U 117, U 118, U 119, U 120, U 121, U 122, U 123, U 124, U 125, U 126, U 127, U 128, U 129, U 130, U 131, U 132, U 133, U 134, U 135, U 136, U 137, U 138], defers := [] } := by rw [hU]; exact ha
    clear hU ha
    subst ha2
    have hbr := xr.cells
    have hfr := xr.free
    go_wp2
    obtain ⟨W7, hW7⟩ : ∃ W7, W7 = (((((w'.setCell ⟨w.heap.size, 0, none⟩ (.int .i64 0)).setCell ⟨w.heap.size, 1, none⟩ (.bool false)).setCell ⟨w.heap.size, 2, none⟩ (.int .i64 0)).setCell ⟨w.heap.size, 3, none⟩ (.string ⟨#[]⟩)).setCell ⟨w.heap.size, 4, none⟩ (.slice none 0 0)) := ⟨_, rfl⟩
    rw [← hW7]
    have HB7 : Below w.heap.size w W7 := by rw [hW7]; exact below_set (below_set (below_set (below_set (below_set HB (by simp) _) (by simp) _) (by simp) _) (by simp) _) (by simp) _
    have xr7 : Box W7 w.heap.size #[.int .i64 0, .bool false, .int .i64 0, .string ⟨#[]⟩, .slice none 0 0] := by rw [hW7]; exact ((((xr.put 0 _).put 1 _).put 2 _).put 3 _).put 4 _
    first
      | refine bodyPost_ret (results_c3 _ rfl rfl (box_load xr7 rfl rfl rfl rfl rfl)) rfl ?_
      | (simp only [Exit.jump]; refine bodyPost_ret (results_c3 _ rfl rfl (box_load xr7 rfl rfl rfl rfl rfl)) rfl ?_)
    exact ⟨rfl, HB7⟩
  case first =>
  go_upto_region 6 with (fail)
  obtain ⟨W2, hW2⟩ : ∃ W2, W2 = (w.alloc (.cells #[.int .i64 0, .bool false, .int .i64 0, .string ⟨#[]⟩, .slice none 0 0] 25)).alloc (.cells #[.int .i64 0, .bool false, .int .i64 0, .string ⟨#[]⟩, .slice none 0 0] 25) := ⟨_, rfl⟩
  rw [← hW2]
  have HB2 : Below w.heap.size w W2 := by rw [hW2]; exact below_more (below_more (Below.refl _ _) _) _
  have hz2 : w.heap.size + 1 < W2.heap.size := by rw [hW2]; simp
  have xr2 : Box W2 w.heap.size #[.int .i64 0, .bool false, .int .i64 0, .string ⟨#[]⟩, .slice none 0 0] := by rw [hW2]; exact (Box.new w _).more _
  have xv2 : Box W2 (w.heap.size + 1) #[.int .i64 0, .bool false, .int .i64 0, .string ⟨#[]⟩, .slice none 0 0] := by rw [hW2]; have h := Box.new (w.alloc (.cells #[.int .i64 0, .bool false, .int .i64 0, .string ⟨#[]⟩, .slice none 0 0] 25)) #[.int .i64 0, .bool false, .int .i64 0, .string ⟨#[]⟩, .slice none 0 0]; simpa using h
  have hbr2 := xr2.cells
  have hbv2 := xv2.cells
  have hfr2 := xr2.free
  have hfv2 := xv2.free
  have hcx := HCI.out W2 HB2
  clear hW2
  go_upto_region 8 with (fail)
  obtain ⟨W3, hW3⟩ : ∃ W3, W3 = W2.setCell ⟨w.heap.size + 1, 0, none⟩ (.int .i64 1) := ⟨_, rfl⟩
  rw [← hW3]
  have HB3 : Below w.heap.size w W3 := by rw [hW3]; exact below_set HB2 (by simp) _
  have hz3 : w.heap.size + 1 < W3.heap.size := by rw [hW3]; simpa using hz2
  have xr3 : Box W3 w.heap.size #[.int .i64 0, .bool false, .int .i64 0, .string ⟨#[]⟩, .slice none 0 0] := by rw [hW3]; exact xr2.off _ _ (by simp)
  have xv3 : Box W3 (w.heap.size + 1) #[.int .i64 1, .bool false, .int .i64 0, .string ⟨#[]⟩, .slice none 0 0] := by rw [hW3]; exact xv2.put 0 _
  have hbr3 := xr3.cells
  have hbv3 := xv3.cells
  have hfr3 := xr3.free
  have hfv3 := xv3.free
  clear hW3 xr2 xv2 hbr2 hbv2 hfr2 hfv2 HB2 hz2
  obtain ⟨m1, hm1⟩ : ∃ m1, m1 = m - (i + 1) := ⟨_, rfl⟩
  obtain ⟨c1, hc1⟩ : ∃ c1, c1 = c - (i + 1) := ⟨_, rfl⟩
  rw [← hm1, ← hc1]
  have hmc1 : m1 ≤ c1 := by omega
  have HLR2 : rs.length = m1 := by rw [HLR.out, hm1]
  (try rw [← hm1] at hs)
  have hnx : (m : Int) - (m1 : Int) = (i : Int) + 1 := by omega
  have HNX := Aside0.mk hnx
  clear hnx hm1 hc1 hsl hcx
  have hst : ∀ W, (Instr.slice 30 (.slice Q m1 c1) none (some (.int .i64 1)) none).run Tryd.prog W = .ok (.slice Q 1 c1) W := fun W => slice_to W Q m1 c1 1 (by omega) (by omega)
  have hsf : ∀ W, (Instr.slice 30 (.slice Q m1 c1) (some (.int .i64 1)) none none).run Tryd.prog W = .ok (.slice (cutA Q c1 1) (m1 - 1) (c1 - 1)) W := fun W => slice_from W Q m1 c1 1 (by omega) (by omega)
  have HR2 := (HRD.out.drop c1 1 (by omega))
  generalize cutA Q c1 1 = Q2 at hsf HR2
  have hmin : min (1 : Int) 7 = 1 := by decide
  go_upto_region 11 with (fail)
  obtain ⟨W4, hW4⟩ : ∃ W4, W4 = W3.alloc (.cells #[.int .i64 0, .int .i64 1, .int .i64 8, .int .i64 4, .int .i64 8, .int .i64 8, .int .i64 1, .int .i64 0] 3) := ⟨_, rfl⟩
  rw [← hW4]
  have HB4 : Below w.heap.size w W4 := by rw [hW4]; exact below_more HB3 _
  have hz4 : w.heap.size + 1 < W4.heap.size := by rw [hW4]; simp; omega
  have xr4 : Box W4 w.heap.size #[.int .i64 0, .bool false, .int .i64 0, .string ⟨#[]⟩, .slice none 0 0] := by rw [hW4]; exact xr3.more _
  have xv4 : Box W4 (w.heap.size + 1) #[.int .i64 1, .bool false, .int .i64 0, .string ⟨#[]⟩, .slice none 0 0] := by rw [hW4]; exact xv3.more _
  have hbr4 := xr4.cells
  have hbv4 := xv4.cells
  have hfr4 := xr4.free
  have hfv4 := xv4.free
  clear hW4 xr3 xv3 hbr3 hbv3 hfr3 hfv3 HB3 hz3 hmin hst
  obtain ⟨ae, rfl⟩ : ∃ ae, Q = some ae := (HRD.out.2 (by omega)).imp fun _ h => h.1
  have HRS := Aside0.mk hrs
  clear hrs
  go_loopg [9, 53] 2 (fun gg s9 s53 wr => ∃ j : Nat, j ≤ 1 ∧ 1 < gg + j ∧ s53 = .int .i64 j ∧ s9 = .int .u64 (beI (rs.take j)) ∧ wr = W4)
  case atStart => exact ⟨0, by omega, by omega, rfl, rfl, rfl⟩
  case round =>
    obtain ⟨j, hj, hg, rfl, rfl, rfl⟩ := hrel
    by_cases hlt : j < 1
    · have hlti : (j : Int) < 1 := by omega
      have hj0 : (0 : Int) ≤ (j : Int) := by omega
      have hcell : wr.cell? (ae.add j) = some (.int .u8 (rs.getD j 0)) := by
        obtain ⟨ae', e, h⟩ := (HRD.out.below HB4).2 (by omega)
        cases e
        exact h j (by omega)
      have hcb := HRS.out (rs.getD j 0) (by rw [List.getD_eq_getElem?_getD, List.getElem?_eq_getElem (by omega)]; exact List.getElem_mem _)
      have hbe := beI_take rs j (by omega)
      have hxb := beI_bound j (rs.take j) (by rw [List.length_take]; omega) (fun x hx => HRS.out x (List.mem_of_mem_take hx))
      have hx7 : (256 : Int) ^ j ≤ 72057594037927936 := by
        have : j = 0 ∨ j = 1 ∨ j = 2 ∨ j = 3 ∨ j = 4 ∨ j = 5 ∨ j = 6 ∨ j = 7 := by omega
        rcases this with rfl | rfl | rfl | rfl | rfl | rfl | rfl | rfl <;> decide
      generalize rs.getD j 0 = y at hcell hcb hbe
      generalize beI (rs.take j) = x at hbe hxb
      have hor := or_byte64 x y hxb.1 (by omega) hcb.1 hcb.2
      have HBE := Aside0.mk hbe
      clear hbe
      go_wp2
      go_roundg (gk - 1)
      case measure => omega
      case rel => exact ⟨j + 1, by omega, by omega, by go_num, by rw [HBE.out], rfl⟩
    · obtain rfl : j = 1 := by omega
      clear hlt hj hg
      generalize hxx : beI (rs.take 1) = x at hn
      have hng : ¬ x ≤ 1 := by omega
      go_upto_region 19 with (fail)
      refine wp_goto ?_
      exact ⟨rfl, rfl, xr4, HB4⟩

set_option maxRecDepth 100000 in
set_option maxHeartbeats 3200000 in
theorem dec_4_not (A : Option Addr) (bs : List Int) (c : Nat) (i : Nat) (w : World) (hr : ReadsB w A bs) (hi : i < bs.length) (hc : bs.length ≤ c) (hbt : ∀ x ∈ bs, 0 ≤ x ∧ x < 256) (hk : bs.getD i 0 = 4) (hs : 8 ≤ bs.length - (i + 1)) (hn : idB (sgn (beI ((bs.drop (i + 1)).take 8))) = false) :
    Calls Tryd.prog 36 #[.slice A bs.length c, .int .i64 (i : Int)] w fun e w' => e = .returned (.tuple #[.agg #[.int .i64 0, .bool false, .int .i64 0, .string ⟨#[]⟩, .slice none 0 0], .int .i64 0, .int .i64 21]) ∧ Below w.heap.size w w' := by
  obtain ⟨ad, rfl, hcell⟩ := hr.2 (by omega)
  have hci : ∀ W, Below w.heap.size w W → W.cell? (ad.add i) = some (.int .u8 4) := fun W hW => by
    obtain ⟨ad', e, h⟩ := (hr.below hW).2 (by omega)
    cases e
    rw [h i hi, hk]
  have hmx := hr.1
  have hrd := hr.drop c (i + 1) hc
  obtain ⟨m, hm⟩ : ∃ m, m = bs.length := ⟨_, rfl⟩
  have hlr : (bs.drop (i + 1)).length = m - (i + 1) := by rw [List.length_drop, hm]
  (try rw [← hm] at hs)
  rw [← hm] at hi hc hmx ⊢
  have hsl : ∀ W, (Instr.slice 30 (.slice (some ad) m c) (some (.int .i64 ((i : Int) + 1))) none none).run Tryd.prog W = .ok (.slice (cutA (some ad) c (i + 1)) (m - (i + 1)) (c - (i + 1))) W := fun W => slice_from W (some ad) m c (i + 1) (by omega) (by omega)
  generalize cutA (some ad) c (i + 1) = Q at hsl hrd
  have hrs : ∀ x ∈ bs.drop (i + 1), 0 ≤ x ∧ x < 256 := fun x hx => hbt x (List.mem_of_mem_drop hx)
  first
    | generalize bs.drop (i + 1) = rs at hlr hrd hrs hn ⊢
    | generalize bs.drop (i + 1) = rs at hlr hrd hrs ⊢
  have hii : (i : Int) < (m : Int) := by omega
  have hi0 : (0 : Int) ≤ (i : Int) := by omega
  have HM := Aside0.mk hm
  have HR := Aside0.mk hr
  have HRD := Aside0.mk hrd
  have HLR := Aside0.mk hlr
  have HCI := Aside0.mk hci
  clear hm hr hk hcell hrd hlr hci hbt
  go_enter Tryd.func36, Tryd.ntmps36
  go_wp2
  go_step3
  go_upto_region 6 with (fail)
  obtain ⟨W2, hW2⟩ : ∃ W2, W2 = (w.alloc (.cells #[.int .i64 0, .bool false, .int .i64 0, .string ⟨#[]⟩, .slice none 0 0] 25)).alloc (.cells #[.int .i64 0, .bool false, .int .i64 0, .string ⟨#[]⟩, .slice none 0 0] 25) := ⟨_, rfl⟩
  rw [← hW2]
  have HB2 : Below w.heap.size w W2 := by rw [hW2]; exact below_more (below_more (Below.refl _ _) _) _
  have hz2 : w.heap.size + 1 < W2.heap.size := by rw [hW2]; simp
  have xr2 : Box W2 w.heap.size #[.int .i64 0, .bool false, .int .i64 0, .string ⟨#[]⟩, .slice none 0 0] := by rw [hW2]; exact (Box.new w _).more _
  have xv2 : Box W2 (w.heap.size + 1) #[.int .i64 0, .bool false, .int .i64 0, .string ⟨#[]⟩, .slice none 0 0] := by rw [hW2]; have h := Box.new (w.alloc (.cells #[.int .i64 0, .bool false, .int .i64 0, .string ⟨#[]⟩, .slice none 0 0] 25)) #[.int .i64 0, .bool false, .int .i64 0, .string ⟨#[]⟩, .slice none 0 0]; simpa using h
  have hbr2 := xr2.cells
  have hbv2 := xv2.cells
  have hfr2 := xr2.free
  have hfv2 := xv2.free
  have hcx := HCI.out W2 HB2
  clear hW2
  go_upto_region 8 with (fail)
  obtain ⟨W3, hW3⟩ : ∃ W3, W3 = W2.setCell ⟨w.heap.size + 1, 0, none⟩ (.int .i64 4) := ⟨_, rfl⟩
  rw [← hW3]
  have HB3 : Below w.heap.size w W3 := by rw [hW3]; exact below_set HB2 (by simp) _
  have hz3 : w.heap.size + 1 < W3.heap.size := by rw [hW3]; simpa using hz2
  have xr3 : Box W3 w.heap.size #[.int .i64 0, .bool false, .int .i64 0, .string ⟨#[]⟩, .slice none 0 0] := by rw [hW3]; exact xr2.off _ _ (by simp)
  have xv3 : Box W3 (w.heap.size + 1) #[.int .i64 4, .bool false, .int .i64 0, .string ⟨#[]⟩, .slice none 0 0] := by rw [hW3]; exact xv2.put 0 _
  have hbr3 := xr3.cells
  have hbv3 := xv3.cells
  have hfr3 := xr3.free
  have hfv3 := xv3.free
  clear hW3 xr2 xv2 hbr2 hbv2 hfr2 hfv2 HB2 hz2
  obtain ⟨m1, hm1⟩ : ∃ m1, m1 = m - (i + 1) := ⟨_, rfl⟩
  obtain ⟨c1, hc1⟩ : ∃ c1, c1 = c - (i + 1) := ⟨_, rfl⟩
  rw [← hm1, ← hc1]
  have hmc1 : m1 ≤ c1 := by omega
  have HLR2 : rs.length = m1 := by rw [HLR.out, hm1]
  (try rw [← hm1] at hs)
  have hnx : (m : Int) - (m1 : Int) = (i : Int) + 1 := by omega
  have HNX := Aside0.mk hnx
  clear hnx hm1 hc1 hsl hcx
  have hst : ∀ W, (Instr.slice 30 (.slice Q m1 c1) none (some (.int .i64 8)) none).run Tryd.prog W = .ok (.slice Q 8 c1) W := fun W => slice_to W Q m1 c1 8 (by omega) (by omega)
  have hsf : ∀ W, (Instr.slice 30 (.slice Q m1 c1) (some (.int .i64 8)) none none).run Tryd.prog W = .ok (.slice (cutA Q c1 8) (m1 - 8) (c1 - 8)) W := fun W => slice_from W Q m1 c1 8 (by omega) (by omega)
  have HR2 := (HRD.out.drop c1 8 (by omega))
  generalize cutA Q c1 8 = Q2 at hsf HR2
  have hmin : min (4 : Int) 7 = 4 := by decide
  go_upto_region 11 with (fail)
  obtain ⟨W4, hW4⟩ : ∃ W4, W4 = W3.alloc (.cells #[.int .i64 0, .int .i64 1, .int .i64 8, .int .i64 4, .int .i64 8, .int .i64 8, .int .i64 1, .int .i64 0] 3) := ⟨_, rfl⟩
  rw [← hW4]
  have HB4 : Below w.heap.size w W4 := by rw [hW4]; exact below_more HB3 _
  have hz4 : w.heap.size + 1 < W4.heap.size := by rw [hW4]; simp; omega
  have xr4 : Box W4 w.heap.size #[.int .i64 0, .bool false, .int .i64 0, .string ⟨#[]⟩, .slice none 0 0] := by rw [hW4]; exact xr3.more _
  have xv4 : Box W4 (w.heap.size + 1) #[.int .i64 4, .bool false, .int .i64 0, .string ⟨#[]⟩, .slice none 0 0] := by rw [hW4]; exact xv3.more _
  have hbr4 := xr4.cells
  have hbv4 := xv4.cells
  have hfr4 := xr4.free
  have hfv4 := xv4.free
  clear hW4 xr3 xv3 hbr3 hbv3 hfr3 hfv3 HB3 hz3 hmin hst
  obtain ⟨ae, rfl⟩ : ∃ ae, Q = some ae := (HRD.out.2 (by omega)).imp fun _ h => h.1
  have HRS := Aside0.mk hrs
  clear hrs
  go_loopg [9, 53] 9 (fun gg s9 s53 wr => ∃ j : Nat, j ≤ 8 ∧ 8 < gg + j ∧ s53 = .int .i64 j ∧ s9 = .int .u64 (beI (rs.take j)) ∧ wr = W4)
  case atStart => exact ⟨0, by omega, by omega, rfl, rfl, rfl⟩
  case round =>
    obtain ⟨j, hj, hg, rfl, rfl, rfl⟩ := hrel
    by_cases hlt : j < 8
    · have hlti : (j : Int) < 8 := by omega
      have hj0 : (0 : Int) ≤ (j : Int) := by omega
      have hcell : wr.cell? (ae.add j) = some (.int .u8 (rs.getD j 0)) := by
        obtain ⟨ae', e, h⟩ := (HRD.out.below HB4).2 (by omega)
        cases e
        exact h j (by omega)
      have hcb := HRS.out (rs.getD j 0) (by rw [List.getD_eq_getElem?_getD, List.getElem?_eq_getElem (by omega)]; exact List.getElem_mem _)
      have hbe := beI_take rs j (by omega)
      have hxb := beI_bound j (rs.take j) (by rw [List.length_take]; omega) (fun x hx => HRS.out x (List.mem_of_mem_take hx))
      have hx7 : (256 : Int) ^ j ≤ 72057594037927936 := by
        have : j = 0 ∨ j = 1 ∨ j = 2 ∨ j = 3 ∨ j = 4 ∨ j = 5 ∨ j = 6 ∨ j = 7 := by omega
        rcases this with rfl | rfl | rfl | rfl | rfl | rfl | rfl | rfl <;> decide
      generalize rs.getD j 0 = y at hcell hcb hbe
      generalize beI (rs.take j) = x at hbe hxb
      have hor := or_byte64 x y hxb.1 (by omega) hcb.1 hcb.2
      have HBE := Aside0.mk hbe
      clear hbe
      go_wp2
      go_roundg (gk - 1)
      case measure => omega
      case rel => exact ⟨j + 1, by omega, by omega, by go_num, by rw [HBE.out], rfl⟩
    · obtain rfl : j = 8 := by omega
      clear hlt hj hg
      have hn0 := beI_bound 8 (rs.take 8) (by rw [List.length_take]; omega) (fun x hx => HRS.out x (List.mem_of_mem_take hx))
      have hcv : sgn (beI (rs.take 8)) = IntKind.i64.wrap (beI (rs.take 8)) := rfl
      generalize hxx : beI (rs.take 8) = x at hn0 hcv hn
      have hcw : ∀ W, (convert 43 2 (.int .u64 x)).run Tryd.prog W = .ok (.int .i64 (sgn x)) W := fun W => by
        go_simp
        first | done | exact hcv.symm
      clear hcv
      generalize hyy : sgn x = y at hcw hn
      go_upto_region 38 with (fail)
      obtain ⟨W5, hW5⟩ : ∃ W5, W5 = wr.setCell ⟨w.heap.size + 1, 2, none⟩ (.int .i64 y) := ⟨_, rfl⟩
      rw [← hW5]
      have HB5 : Below w.heap.size w W5 := by rw [hW5]; exact below_set HB4 (by simp) _
      have hz5 : w.heap.size + 1 < W5.heap.size := by rw [hW5]; simpa using hz4
      have xr5 : Box W5 w.heap.size #[.int .i64 0, .bool false, .int .i64 0, .string ⟨#[]⟩, .slice none 0 0] := by rw [hW5]; exact xr4.off _ _ (by simp)
      have xv5 : Box W5 (w.heap.size + 1) #[.int .i64 4, .bool false, .int .i64 y, .string ⟨#[]⟩, .slice none 0 0] := by rw [hW5]; exact xv4.put 2 _
      have hbr5 := xr5.cells
      have hbv5 := xv5.cells
      have hfr5 := xr5.free
      have hfv5 := xv5.free
      clear hW5 xr4 xv4 hbr4 hbv4 hfr4 hfv4 HB4 hz4
      have hRt : ∀ W, Below w.heap.size w W → Calls Tryd.prog 22 #[.agg #[.int .i64 4, .bool false, .int .i64 y, .string ⟨#[]⟩, .slice none 0 0]] W fun e w' => e = .returned (.bool false) ∧ Below W.heap.size W w' := fun W hW => by
        have h := right_any 4 y false ⟨#[]⟩ none [] 0 W ⟨by decide, fun h => absurd h (by decide)⟩
        rw [show rightB 4 false y ⟨#[]⟩ [] = false from by simp [rightB, hn]] at h
        exact h
      go_wp2_with (go_at_call 22; refine (hRt _ HB5).mono ?_)
      first
        | (intro e W6 he hb6; subst he)
        | rintro e W6 ⟨rfl, hb6⟩
      have HB6 := below_then HB5 hb6
      have hz6 : w.heap.size + 1 < W6.heap.size := by have := hb6.size; omega
      have xr6 := xr5.kept hb6
      have xv6 := xv5.kept hb6
      have hbr6 := xr6.cells
      have hbv6 := xv6.cells
      have hfr6 := xr6.free
      have hfv6 := xv6.free
      clear hb6 xr5 xv5 hbr5 hbv5 hfr5 hfv5 HB5 hz5
      go_wp2
      refine wp_label ?_
      go_wp2
      obtain ⟨W7, hW7⟩ : ∃ W7, W7 = (((((W6.setCell ⟨w.heap.size, 0, none⟩ (.int .i64 0)).setCell ⟨w.heap.size, 1, none⟩ (.bool false)).setCell ⟨w.heap.size, 2, none⟩ (.int .i64 0)).setCell ⟨w.heap.size, 3, none⟩ (.string ⟨#[]⟩)).setCell ⟨w.heap.size, 4, none⟩ (.slice none 0 0)) := ⟨_, rfl⟩
      rw [← hW7]
      have HB7 : Below w.heap.size w W7 := by rw [hW7]; exact below_set (below_set (below_set (below_set (below_set HB6 (by simp) _) (by simp) _) (by simp) _) (by simp) _) (by simp) _
      have xr7 : Box W7 w.heap.size #[.int .i64 0, .bool false, .int .i64 0, .string ⟨#[]⟩, .slice none 0 0] := by rw [hW7]; exact ((((xr6.put 0 _).put 1 _).put 2 _).put 3 _).put 4 _
      rw [Exit.noGoto_ret]
      (try subst hyy)
      (try subst hxx)
      refine bodyPost_ret (results_c3 _ rfl rfl (box_load xr7 rfl rfl rfl rfl rfl)) rfl ?_
      first
        | exact ⟨rfl, HB7⟩
        | exact ⟨rfl, HB7⟩

set_option maxRecDepth 100000 in
set_option maxHeartbeats 3200000 in
theorem dec_5_not (A : Option Addr) (bs : List Int) (c : Nat) (i : Nat) (w : World) (hr : ReadsB w A bs) (hi : i < bs.length) (hc : bs.length ≤ c) (hbt : ∀ x ∈ bs, 0 ≤ x ∧ x < 256) (hk : bs.getD i 0 = 5) (hs : 8 ≤ bs.length - (i + 1)) (hn : idB (sgn (beI ((bs.drop (i + 1)).take 8))) = false) :
    Calls Tryd.prog 36 #[.slice A bs.length c, .int .i64 (i : Int)] w fun e w' => e = .returned (.tuple #[.agg #[.int .i64 0, .bool false, .int .i64 0, .string ⟨#[]⟩, .slice none 0 0], .int .i64 0, .int .i64 21]) ∧ Below w.heap.size w w' := by
  obtain ⟨ad, rfl, hcell⟩ := hr.2 (by omega)
  have hci : ∀ W, Below w.heap.size w W → W.cell? (ad.add i) = some (.int .u8 5) := fun W hW => by
    obtain ⟨ad', e, h⟩ := (hr.below hW).2 (by omega)
    cases e
    rw [h i hi, hk]
  have hmx := hr.1
  have hrd := hr.drop c (i + 1) hc
  obtain ⟨m, hm⟩ : ∃ m, m = bs.length := ⟨_, rfl⟩
  have hlr : (bs.drop (i + 1)).length = m - (i + 1) := by rw [List.length_drop, hm]
  (try rw [← hm] at hs)
  rw [← hm] at hi hc hmx ⊢
  have hsl : ∀ W, (Instr.slice 30 (.slice (some ad) m c) (some (.int .i64 ((i : Int) + 1))) none none).run Tryd.prog W = .ok (.slice (cutA (some ad) c (i + 1)) (m - (i + 1)) (c - (i + 1))) W := fun W => slice_from W (some ad) m c (i + 1) (by omega) (by omega)
  generalize cutA (some ad) c (i + 1) = Q at hsl hrd
  have hrs : ∀ x ∈ bs.drop (i + 1), 0 ≤ x ∧ x < 256 := fun x hx => hbt x (List.mem_of_mem_drop hx)
  first
    | generalize bs.drop (i + 1) = rs at hlr hrd hrs hn ⊢
    | generalize bs.drop (i + 1) = rs at hlr hrd hrs ⊢
  have hii : (i : Int) < (m : Int) := by omega
  have hi0 : (0 : Int) ≤ (i : Int) := by omega
  have HM := Aside0.mk hm
  have HR := Aside0.mk hr
  have HRD := Aside0.mk hrd
  have HLR := Aside0.mk hlr
  have HCI := Aside0.mk hci
  clear hm hr hk hcell hrd hlr hci hbt
  go_enter Tryd.func36, Tryd.ntmps36
  go_wp2
  go_step3
  go_upto_region 6 with (fail)
  obtain ⟨W2, hW2⟩ : ∃ W2, W2 = (w.alloc (.cells #[.int .i64 0, .bool false, .int .i64 0, .string ⟨#[]⟩, .slice none 0 0] 25)).alloc (.cells #[.int .i64 0, .bool false, .int .i64 0, .string ⟨#[]⟩, .slice none 0 0] 25) := ⟨_, rfl⟩
  rw [← hW2]
  have HB2 : Below w.heap.size w W2 := by rw [hW2]; exact below_more (below_more (Below.refl _ _) _) _
  have hz2 : w.heap.size + 1 < W2.heap.size := by rw [hW2]; simp
  have xr2 : Box W2 w.heap.size #[.int .i64 0, .bool false, .int .i64 0, .string ⟨#[]⟩, .slice none 0 0] := by rw [hW2]; exact (Box.new w _).more _
  have xv2 : Box W2 (w.heap.size + 1) #[.int .i64 0, .bool false, .int .i64 0, .string ⟨#[]⟩, .slice none 0 0] := by rw [hW2]; have h := Box.new (w.alloc (.cells #[.int .i64 0, .bool false, .int .i64 0, .string ⟨#[]⟩, .slice none 0 0] 25)) #[.int .i64 0, .bool false, .int .i64 0, .string ⟨#[]⟩, .slice none 0 0]; simpa using h
  have hbr2 := xr2.cells
  have hbv2 := xv2.cells
  have hfr2 := xr2.free
  have hfv2 := xv2.free
  have hcx := HCI.out W2 HB2
  clear hW2
  go_upto_region 8 with (fail)
  obtain ⟨W3, hW3⟩ : ∃ W3, W3 = W2.setCell ⟨w.heap.size + 1, 0, none⟩ (.int .i64 5) := ⟨_, rfl⟩
  rw [← hW3]
  have HB3 : Below w.heap.size w W3 := by rw [hW3]; exact below_set HB2 (by simp) _
  have hz3 : w.heap.size + 1 < W3.heap.size := by rw [hW3]; simpa using hz2
  have xr3 : Box W3 w.heap.size #[.int .i64 0, .bool false, .int .i64 0, .string ⟨#[]⟩, .slice none 0 0] := by rw [hW3]; exact xr2.off _ _ (by simp)
  have xv3 : Box W3 (w.heap.size + 1) #[.int .i64 5, .bool false, .int .i64 0, .string ⟨#[]⟩, .slice none 0 0] := by rw [hW3]; exact xv2.put 0 _
  have hbr3 := xr3.cells
  have hbv3 := xv3.cells
  have hfr3 := xr3.free
  have hfv3 := xv3.free
  clear hW3 xr2 xv2 hbr2 hbv2 hfr2 hfv2 HB2 hz2
  obtain ⟨m1, hm1⟩ : ∃ m1, m1 = m - (i + 1) := ⟨_, rfl⟩
  obtain ⟨c1, hc1⟩ : ∃ c1, c1 = c - (i + 1) := ⟨_, rfl⟩
  rw [← hm1, ← hc1]
  have hmc1 : m1 ≤ c1 := by omega
  have HLR2 : rs.length = m1 := by rw [HLR.out, hm1]
  (try rw [← hm1] at hs)
  have hnx : (m : Int) - (m1 : Int) = (i : Int) + 1 := by omega
  have HNX := Aside0.mk hnx
  clear hnx hm1 hc1 hsl hcx
  have hst : ∀ W, (Instr.slice 30 (.slice Q m1 c1) none (some (.int .i64 8)) none).run Tryd.prog W = .ok (.slice Q 8 c1) W := fun W => slice_to W Q m1 c1 8 (by omega) (by omega)
  have hsf : ∀ W, (Instr.slice 30 (.slice Q m1 c1) (some (.int .i64 8)) none none).run Tryd.prog W = .ok (.slice (cutA Q c1 8) (m1 - 8) (c1 - 8)) W := fun W => slice_from W Q m1 c1 8 (by omega) (by omega)
  have HR2 := (HRD.out.drop c1 8 (by omega))
  generalize cutA Q c1 8 = Q2 at hsf HR2
  have hmin : min (5 : Int) 7 = 5 := by decide
  go_upto_region 11 with (fail)
  obtain ⟨W4, hW4⟩ : ∃ W4, W4 = W3.alloc (.cells #[.int .i64 0, .int .i64 1, .int .i64 8, .int .i64 4, .int .i64 8, .int .i64 8, .int .i64 1, .int .i64 0] 3) := ⟨_, rfl⟩
  rw [← hW4]
  have HB4 : Below w.heap.size w W4 := by rw [hW4]; exact below_more HB3 _
  have hz4 : w.heap.size + 1 < W4.heap.size := by rw [hW4]; simp; omega
  have xr4 : Box W4 w.heap.size #[.int .i64 0, .bool false, .int .i64 0, .string ⟨#[]⟩, .slice none 0 0] := by rw [hW4]; exact xr3.more _
  have xv4 : Box W4 (w.heap.size + 1) #[.int .i64 5, .bool false, .int .i64 0, .string ⟨#[]⟩, .slice none 0 0] := by rw [hW4]; exact xv3.more _
  have hbr4 := xr4.cells
  have hbv4 := xv4.cells
  have hfr4 := xr4.free
  have hfv4 := xv4.free
  clear hW4 xr3 xv3 hbr3 hbv3 hfr3 hfv3 HB3 hz3 hmin hst
  obtain ⟨ae, rfl⟩ : ∃ ae, Q = some ae := (HRD.out.2 (by omega)).imp fun _ h => h.1
  have HRS := Aside0.mk hrs
  clear hrs
  go_loopg [9, 53] 9 (fun gg s9 s53 wr => ∃ j : Nat, j ≤ 8 ∧ 8 < gg + j ∧ s53 = .int .i64 j ∧ s9 = .int .u64 (beI (rs.take j)) ∧ wr = W4)
  case atStart => exact ⟨0, by omega, by omega, rfl, rfl, rfl⟩
  case round =>
    obtain ⟨j, hj, hg, rfl, rfl, rfl⟩ := hrel
    by_cases hlt : j < 8
    · have hlti : (j : Int) < 8 := by omega
      have hj0 : (0 : Int) ≤ (j : Int) := by omega
      have hcell : wr.cell? (ae.add j) = some (.int .u8 (rs.getD j 0)) := by
        obtain ⟨ae', e, h⟩ := (HRD.out.below HB4).2 (by omega)
        cases e
        exact h j (by omega)
      have hcb := HRS.out (rs.getD j 0) (by rw [List.getD_eq_getElem?_getD, List.getElem?_eq_getElem (by omega)]; exact List.getElem_mem _)
      have hbe := beI_take rs j (by omega)
      have hxb := beI_bound j (rs.take j) (by rw [List.length_take]; omega) (fun x hx => HRS.out x (List.mem_of_mem_take hx))
      have hx7 : (256 : Int) ^ j ≤ 72057594037927936 := by
        have : j = 0 ∨ j = 1 ∨ j = 2 ∨ j = 3 ∨ j = 4 ∨ j = 5 ∨ j = 6 ∨ j = 7 := by omega
        rcases this with rfl | rfl | rfl | rfl | rfl | rfl | rfl | rfl <;> decide
      generalize rs.getD j 0 = y at hcell hcb hbe
      generalize beI (rs.take j) = x at hbe hxb
      have hor := or_byte64 x y hxb.1 (by omega) hcb.1 hcb.2
      have HBE := Aside0.mk hbe
      clear hbe
      go_wp2
      go_roundg (gk - 1)
      case measure => omega
      case rel => exact ⟨j + 1, by omega, by omega, by go_num, by rw [HBE.out], rfl⟩
    · obtain rfl : j = 8 := by omega
      clear hlt hj hg
      have hn0 := beI_bound 8 (rs.take 8) (by rw [List.length_take]; omega) (fun x hx => HRS.out x (List.mem_of_mem_take hx))
      have hcv : sgn (beI (rs.take 8)) = IntKind.i64.wrap (beI (rs.take 8)) := rfl
      generalize hxx : beI (rs.take 8) = x at hn0 hcv hn
      have hcw : ∀ W, (convert 43 2 (.int .u64 x)).run Tryd.prog W = .ok (.int .i64 (sgn x)) W := fun W => by
        go_simp
        first | done | exact hcv.symm
      clear hcv
      generalize hyy : sgn x = y at hcw hn
      go_upto_region 38 with (fail)
      obtain ⟨W5, hW5⟩ : ∃ W5, W5 = wr.setCell ⟨w.heap.size + 1, 2, none⟩ (.int .i64 y) := ⟨_, rfl⟩
      rw [← hW5]
      have HB5 : Below w.heap.size w W5 := by rw [hW5]; exact below_set HB4 (by simp) _
      have hz5 : w.heap.size + 1 < W5.heap.size := by rw [hW5]; simpa using hz4
      have xr5 : Box W5 w.heap.size #[.int .i64 0, .bool false, .int .i64 0, .string ⟨#[]⟩, .slice none 0 0] := by rw [hW5]; exact xr4.off _ _ (by simp)
      have xv5 : Box W5 (w.heap.size + 1) #[.int .i64 5, .bool false, .int .i64 y, .string ⟨#[]⟩, .slice none 0 0] := by rw [hW5]; exact xv4.put 2 _
      have hbr5 := xr5.cells
      have hbv5 := xv5.cells
      have hfr5 := xr5.free
      have hfv5 := xv5.free
      clear hW5 xr4 xv4 hbr4 hbv4 hfr4 hfv4 HB4 hz4
      have hRt : ∀ W, Below w.heap.size w W → Calls Tryd.prog 22 #[.agg #[.int .i64 5, .bool false, .int .i64 y, .string ⟨#[]⟩, .slice none 0 0]] W fun e w' => e = .returned (.bool false) ∧ Below W.heap.size W w' := fun W hW => by
        have h := right_any 5 y false ⟨#[]⟩ none [] 0 W ⟨by decide, fun h => absurd h (by decide)⟩
        rw [show rightB 5 false y ⟨#[]⟩ [] = false from by simp [rightB, hn]] at h
        exact h
      go_wp2_with (go_at_call 22; refine (hRt _ HB5).mono ?_)
      first
        | (intro e W6 he hb6; subst he)
        | rintro e W6 ⟨rfl, hb6⟩
      have HB6 := below_then HB5 hb6
      have hz6 : w.heap.size + 1 < W6.heap.size := by have := hb6.size; omega
      have xr6 := xr5.kept hb6
      have xv6 := xv5.kept hb6
      have hbr6 := xr6.cells
      have hbv6 := xv6.cells
      have hfr6 := xr6.free
      have hfv6 := xv6.free
      clear hb6 xr5 xv5 hbr5 hbv5 hfr5 hfv5 HB5 hz5
      go_wp2
      refine wp_label ?_
      go_wp2
      obtain ⟨W7, hW7⟩ : ∃ W7, W7 = (((((W6.setCell ⟨w.heap.size, 0, none⟩ (.int .i64 0)).setCell ⟨w.heap.size, 1, none⟩ (.bool false)).setCell ⟨w.heap.size, 2, none⟩ (.int .i64 0)).setCell ⟨w.heap.size, 3, none⟩ (.string ⟨#[]⟩)).setCell ⟨w.heap.size, 4, none⟩ (.slice none 0 0)) := ⟨_, rfl⟩
      rw [← hW7]
      have HB7 : Below w.heap.size w W7 := by rw [hW7]; exact below_set (below_set (below_set (below_set (below_set HB6 (by simp) _) (by simp) _) (by simp) _) (by simp) _) (by simp) _
      have xr7 : Box W7 w.heap.size #[.int .i64 0, .bool false, .int .i64 0, .string ⟨#[]⟩, .slice none 0 0] := by rw [hW7]; exact ((((xr6.put 0 _).put 1 _).put 2 _).put 3 _).put 4 _
      rw [Exit.noGoto_ret]
      (try subst hyy)
      (try subst hxx)
      refine bodyPost_ret (results_c3 _ rfl rfl (box_load xr7 rfl rfl rfl rfl rfl)) rfl ?_
      first
        | exact ⟨rfl, HB7⟩
        | exact ⟨rfl, HB7⟩
theorem sub_sub_nat3 (m i : Nat) (h : i ≤ m) : (m : Int) - ((m - i : Nat) : Int) = (i : Int) := by omega
theorem slice_from64 (W : World) (A : Option Addr) (m c i : Nat) (hi : i ≤ m) (hc : m ≤ c) (h6 : (i : Int) < 4294967296) :
    (Instr.slice 30 (.slice A m c) (some (.int .u64 (i : Int))) none none).run Tryd.prog W = .ok (.slice (cutA A c i) (m - i) (c - i)) W := by
  unfold cutA
  go_simp
theorem slice_to64 (W : World) (A : Option Addr) (m c i : Nat) (hi : i ≤ m) (hc : m ≤ c) (h6 : (i : Int) < 4294967296) :
    (Instr.slice 30 (.slice A m c) none (some (.int .u64 (i : Int))) none).run Tryd.prog W = .ok (.slice A i c) W := by
  go_simp
  intro h
  omega
set_option maxRecDepth 100000 in
set_option maxHeartbeats 3200000 in
theorem dec_3_past (A : Option Addr) (bs : List Int) (c : Nat) (i : Nat) (w : World) (hr : ReadsB w A bs) (hi : i < bs.length) (hc : bs.length ≤ c) (hbt : ∀ x ∈ bs, 0 ≤ x ∧ x < 256) (hk : bs.getD i 0 = 3) (hs : 4 ≤ bs.length - (i + 1)) (hn : ((bs.length - (i + 1) - 4 : Nat) : Int) < beI ((bs.drop (i + 1)).take 4)) :
    Calls Tryd.prog 36 #[.slice A bs.length c, .int .i64 (i : Int)] w fun e w' => e = .returned (.tuple #[.agg #[.int .i64 0, .bool false, .int .i64 0, .string ⟨#[]⟩, .slice none 0 0], .int .i64 0, .int .i64 21]) ∧ Below w.heap.size w w' := by
  obtain ⟨ad, rfl, hcell⟩ := hr.2 (by omega)
  have hci : ∀ W, Below w.heap.size w W → W.cell? (ad.add i) = some (.int .u8 3) := fun W hW => by
    obtain ⟨ad', e, h⟩ := (hr.below hW).2 (by omega)
    cases e
    rw [h i hi, hk]
  have hmx := hr.1
  have hrd := hr.drop c (i + 1) hc
  obtain ⟨m, hm⟩ : ∃ m, m = bs.length := ⟨_, rfl⟩
  have hlr : (bs.drop (i + 1)).length = m - (i + 1) := by rw [List.length_drop, hm]
  (try rw [← hm] at hs)
  (try rw [← hm] at hn)
  rw [← hm] at hi hc hmx ⊢
  have hsl : ∀ W, (Instr.slice 30 (.slice (some ad) m c) (some (.int .i64 ((i : Int) + 1))) none none).run Tryd.prog W = .ok (.slice (cutA (some ad) c (i + 1)) (m - (i + 1)) (c - (i + 1))) W := fun W => slice_from W (some ad) m c (i + 1) (by omega) (by omega)
  generalize cutA (some ad) c (i + 1) = Q at hsl hrd
  have hrs : ∀ x ∈ bs.drop (i + 1), 0 ≤ x ∧ x < 256 := fun x hx => hbt x (List.mem_of_mem_drop hx)
  first
    | generalize bs.drop (i + 1) = rs at hlr hrd hrs hn hright ⊢
    | generalize bs.drop (i + 1) = rs at hlr hrd hrs hn ⊢
    | generalize bs.drop (i + 1) = rs at hlr hrd hrs ⊢
  have hii : (i : Int) < (m : Int) := by omega
  have hi0 : (0 : Int) ≤ (i : Int) := by omega
  have HM := Aside0.mk hm
  have HR := Aside0.mk hr
  have HRD := Aside0.mk hrd
  have HLR := Aside0.mk hlr
  have HCI := Aside0.mk hci
  clear hm hr hk hcell hrd hlr hci hbt
  go_enter Tryd.func36, Tryd.ntmps36
  go_wp2
  refine wp_scope_jumps 0 (fun a' w' => a' = { tmps := #[(a'.tmps.getD 0 undef), (a'.tmps.getD 1 undef), (a'.tmps.getD 2 undef), (a'.tmps.getD 3 undef), .pointer (some ⟨w.heap.size, 0, none⟩), (a'.tmps.getD 5 undef), (a'.tmps.getD 6 undef), (a'.tmps.getD 7 undef), (a'.tmps.getD 8 undef), (a'.tmps.getD 9 undef), (a'.tmps.getD 10 undef), (a'.tmps.getD 11 undef), (a'.tmps.getD 12 undef), (a'.tmps.getD 13 undef), (a'.tmps.getD 14 undef), (a'.tmps.getD 15 undef), (a'.tmps.getD 16 undef), (a'.tmps.getD 17 undef), (a'.tmps.getD 18 undef), (a'.tmps.getD 19 undef), (a'.tmps.getD 20 undef), (a'.tmps.getD 21 undef), (a'.tmps.getD 22 undef), (a'.tmps.getD 23 undef), (a'.tmps.getD 24 undef), (a'.tmps.getD 25 undef), (a'.tmps.getD 26 undef), (a'.tmps.getD 27 undef), (a'.tmps.getD 28 undef), (a'.tmps.getD 29 undef), (a'.tmps.getD 30 undef), (a'.tmps.getD 31 undef), (a'.tmps.getD 32 undef), (a'.tmps.getD 33 undef), (a'.tmps.getD 34 undef), (a'.tmps.getD 35 undef), (a'.tmps.getD 36 undef), (a'.tmps.getD 37 undef), (a'.tmps.getD 38 undef), (a'.tmps.getD 39 undef), (a'.tmps.getD 40 undef), (a'.tmps.getD 41 undef), (a'.tmps.getD 42 undef), (a'.tmps.getD 43 undef), (a'.tmps.getD 44 undef), (a'.tmps.getD 45 undef), (a'.tmps.getD 46 undef), (a'.tmps.getD 47 undef), (a'.tmps.getD 48 undef), (a'.tmps.getD 49 undef), (a'.tmps.getD 50 undef), (a'.tmps.getD 51 undef), (a'.tmps.getD 52 undef), (a'.tmps.getD 53 undef), (a'.tmps.getD 54 undef), (a'.tmps.getD 55 undef), (a'.tmps.getD 56 undef), (a'.tmps.getD 57 undef), (a'.tmps.getD 58 undef), (a'.tmps.getD 59 undef), (a'.tmps.getD 60 undef), (a'.tmps.getD 61 undef), (a'.tmps.getD 62 undef), (a'.tmps.getD 63 undef), (a'.tmps.getD 64 undef), (a'.tmps.getD 65 undef), (a'.tmps.getD 66 undef), (a'.tmps.getD 67 undef), (a'.tmps.getD 68 undef), (a'.tmps.getD 69 undef), (a'.tmps.getD 70 undef), (a'.tmps.getD 71 undef), (a'.tmps.getD 72 undef), (a'.tmps.getD 73 undef), (a'.tmps.getD 74 undef), (a'.tmps.getD 75 undef), (a'.tmps.getD 76 undef), (a'.tmps.getD 77 undef), (a'.tmps.getD 78 undef), (a'.tmps.getD 79 undef), (a'.tmps.getD 80 undef), (a'.tmps.getD 81 undef), (a'.tmps.getD 82 undef), (a'.tmps.getD 83 undef), (a'.tmps.getD 84 undef), (a'.tmps.getD 85 undef), (a'.tmps.getD 86 undef), (a'.tmps.getD 87 undef), (a'.tmps.getD 88 undef), (a'.tmps.getD 89 undef), (a'.tmps.getD 90 undef), (a'.tmps.getD 91 undef), (a'.tmps.getD 92 undef), (a'.tmps.getD 93 undef), (a'.tmps.getD 94 undef), (a'.tmps.getD 95 undef), (a'.tmps.getD 96 undef), (a'.tmps.getD 97 undef), (a'.tmps.getD 98 undef), (a'.tmps.getD 99 undef), (a'.tmps.getD 100 undef), (a'.tmps.getD 101 undef), (a'.tmps.getD 102 undef), (a'.tmps.getD 103 undef), (a'.tmps.getD 104 undef), (a'.tmps.getD 105 undef), (a'.tmps.getD 106 undef), (a'.tmps.getD 107 undef), (a'.tmps.getD 108 undef), (a'.tmps.getD 109 undef), (a'.tmps.getD 110 undef), (a'.tmps.getD 111 undef), (a'.tmps.getD 112 undef), (a'.tmps.getD 113 undef), (a'.tmps.getD 114 undef), (a'.tmps.getD 115 undef), (a'.tmps.getD 116 undef), (a'.tmps.getD 117 undef), (a'.tmps.getD 118 undef), (a'.tmps.getD 119 undef), (a'.tmps.getD 120 undef), (a'.tmps.getD 121 undef), (a'.tmps.getD 122 undef), (a'.tmps.getD 123 undef), (a'.tmps.getD 124 undef), (a'.tmps.getD 125 undef), (a'.tmps.getD 126 undef), (a'.tmps.getD 127 undef), (a'.tmps.getD 128 undef), (a'.tmps.getD 129 undef), (a'.tmps.getD 130 undef), (a'.tmps.getD 131 undef), (a'.tmps.getD 132 undef), (a'.tmps.getD 133 undef), (a'.tmps.getD 134 undef), (a'.tmps.getD 135 undef), (a'.tmps.getD 136 undef), (a'.tmps.getD 137 undef), (a'.tmps.getD 138 undef)], defers := [] } ∧ Box w' w.heap.size #[.int .i64 0, .bool false, .int .i64 0, .string ⟨#[]⟩, .slice none 0 0] ∧ Below w.heap.size w w') (fun _ _ => 0) rfl ?first ?pass
  case pass =>
    rintro a' w' ⟨ha, xr, HB⟩
    obtain ⟨U, hU⟩ : ∃ U : Nat → Value, U = fun i => a'.tmps.getD i undef := ⟨_, rfl⟩
    have ha2 : a' = { tmps := #[U 0, U 1, U 2, U 3, .pointer (some ⟨w.heap.size, 0, none⟩), U 5, U 6, U 7, U 8, U 9, U 10, U 11, U 12, U 13, U 14, U 15, U 16, U 17, U 18, U 19, U 20, U 21, U 22, U 23, U 24, U 25, U 26, U 27, U 28, U 29, U 30, U 31, U 32, U 33, U 34, U 35, U 36, U 37, U 38, U 39, U 40, U 41, U 42, U 43, U 44, U 45, U 46, U 47, U 48, U 49, U 50, U 51, U 52, U 53, U 54, U 55, U 56, U 57, U 58, U 59, U 60, U 61, U 62, U 63, U 64, U 65, U 66, U 67, U 68, U 69, U 70, U 71, U 72, U 73, U 74, U 75, U 76, U 77, U 78, U 79, U 80, U 81, U 82, U 83, U 84, U 85, U 86, U 87, U 88, U 89, U 90, U 91, U 92, U 93, U 94, U 95, U 96, U 97, U 98, U 99, U 100, U 101, U 102, U 103, U 104, U 105, U 106, U 107, U 108, U 109, U 110, U 111, U 112, U 113, U 114, U 115, U 116, U 117, U 118, U 119, U 120, U 121, U 122, U 123, U 124, U 125, U 126, U 127, U 128, U 129, U 130, U 131, U 132, U 133, U 134, U 135, U 136, U 137, U 138], defers := [] } := by rw [hU]; exact ha
    clear hU ha
    subst ha2
    have hbr := xr.cells
    have hfr := xr.free
    go_wp2
    obtain ⟨W7, hW7⟩ : ∃ W7, W7 = (((((w'.setCell ⟨w.heap.size, 0, none⟩ (.int .i64 0)).setCell ⟨w.heap.size, 1, none⟩ (.bool false)).setCell ⟨w.heap.size, 2, none⟩ (.int .i64 0)).setCell ⟨w.heap.size, 3, none⟩ (.string ⟨#[]⟩)).setCell ⟨w.heap.size, 4, none⟩ (.slice none 0 0)) := ⟨_, rfl⟩
    rw [← hW7]
    have HB7 : Below w.heap.size w W7 := by rw [hW7]; exact below_set (below_set (below_set (below_set (below_set HB (by simp) _) (by simp) _) (by simp) _) (by simp) _) (by simp) _
    have xr7 : Box W7 w.heap.size #[.int .i64 0, .bool false, .int .i64 0, .string ⟨#[]⟩, .slice none 0 0] := by rw [hW7]; exact ((((xr.put 0 _).put 1 _).put 2 _).put 3 _).put 4 _
    first
      | refine bodyPost_ret (results_c3 _ rfl rfl (box_load xr7 rfl rfl rfl rfl rfl)) rfl ?_
      | (simp only [Exit.jump]; refine bodyPost_ret (results_c3 _ rfl rfl (box_load xr7 rfl rfl rfl rfl rfl)) rfl ?_)
    exact ⟨rfl, HB7⟩
  case first =>
  go_upto_region 6 with (fail)
  obtain ⟨W2, hW2⟩ : ∃ W2, W2 = (w.alloc (.cells #[.int .i64 0, .bool false, .int .i64 0, .string ⟨#[]⟩, .slice none 0 0] 25)).alloc (.cells #[.int .i64 0, .bool false, .int .i64 0, .string ⟨#[]⟩, .slice none 0 0] 25) := ⟨_, rfl⟩
  rw [← hW2]
  have HB2 : Below w.heap.size w W2 := by rw [hW2]; exact below_more (below_more (Below.refl _ _) _) _
  have hz2 : w.heap.size + 1 < W2.heap.size := by rw [hW2]; simp
  have xr2 : Box W2 w.heap.size #[.int .i64 0, .bool false, .int .i64 0, .string ⟨#[]⟩, .slice none 0 0] := by rw [hW2]; exact (Box.new w _).more _
  have xv2 : Box W2 (w.heap.size + 1) #[.int .i64 0, .bool false, .int .i64 0, .string ⟨#[]⟩, .slice none 0 0] := by rw [hW2]; have h := Box.new (w.alloc (.cells #[.int .i64 0, .bool false, .int .i64 0, .string ⟨#[]⟩, .slice none 0 0] 25)) #[.int .i64 0, .bool false, .int .i64 0, .string ⟨#[]⟩, .slice none 0 0]; simpa using h
  have hbr2 := xr2.cells
  have hbv2 := xv2.cells
  have hfr2 := xr2.free
  have hfv2 := xv2.free
  have hcx := HCI.out W2 HB2
  clear hW2
  go_upto_region 8 with (fail)
  obtain ⟨W3, hW3⟩ : ∃ W3, W3 = W2.setCell ⟨w.heap.size + 1, 0, none⟩ (.int .i64 3) := ⟨_, rfl⟩
  rw [← hW3]
  have HB3 : Below w.heap.size w W3 := by rw [hW3]; exact below_set HB2 (by simp) _
  have hz3 : w.heap.size + 1 < W3.heap.size := by rw [hW3]; simpa using hz2
  have xr3 : Box W3 w.heap.size #[.int .i64 0, .bool false, .int .i64 0, .string ⟨#[]⟩, .slice none 0 0] := by rw [hW3]; exact xr2.off _ _ (by simp)
  have xv3 : Box W3 (w.heap.size + 1) #[.int .i64 3, .bool false, .int .i64 0, .string ⟨#[]⟩, .slice none 0 0] := by rw [hW3]; exact xv2.put 0 _
  have hbr3 := xr3.cells
  have hbv3 := xv3.cells
  have hfr3 := xr3.free
  have hfv3 := xv3.free
  clear hW3 xr2 xv2 hbr2 hbv2 hfr2 hfv2 HB2 hz2
  obtain ⟨m1, hm1⟩ : ∃ m1, m1 = m - (i + 1) := ⟨_, rfl⟩
  obtain ⟨c1, hc1⟩ : ∃ c1, c1 = c - (i + 1) := ⟨_, rfl⟩
  rw [← hm1, ← hc1]
  have hmc1 : m1 ≤ c1 := by omega
  have HLR2 : rs.length = m1 := by rw [HLR.out, hm1]
  (try rw [← hm1] at hs)
  (try rw [← hm1] at hn)
  have hnx : (m : Int) - (m1 : Int) = (i : Int) + 1 := by omega
  have HNX := Aside0.mk hnx
  clear hnx hm1 hc1 hsl hcx
  have hst : ∀ W, (Instr.slice 30 (.slice Q m1 c1) none (some (.int .i64 4)) none).run Tryd.prog W = .ok (.slice Q 4 c1) W := fun W => slice_to W Q m1 c1 4 (by omega) (by omega)
  have hsf : ∀ W, (Instr.slice 30 (.slice Q m1 c1) (some (.int .i64 4)) none none).run Tryd.prog W = .ok (.slice (cutA Q c1 4) (m1 - 4) (c1 - 4)) W := fun W => slice_from W Q m1 c1 4 (by omega) (by omega)
  have HR2 := (HRD.out.drop c1 4 (by omega))
  generalize cutA Q c1 4 = Q2 at hsf HR2
  have hmin : min (3 : Int) 7 = 3 := by decide
  go_upto_region 11 with (fail)
  obtain ⟨W4, hW4⟩ : ∃ W4, W4 = W3.alloc (.cells #[.int .i64 0, .int .i64 1, .int .i64 8, .int .i64 4, .int .i64 8, .int .i64 8, .int .i64 1, .int .i64 0] 3) := ⟨_, rfl⟩
  rw [← hW4]
  have HB4 : Below w.heap.size w W4 := by rw [hW4]; exact below_more HB3 _
  have hz4 : w.heap.size + 1 < W4.heap.size := by rw [hW4]; simp; omega
  have xr4 : Box W4 w.heap.size #[.int .i64 0, .bool false, .int .i64 0, .string ⟨#[]⟩, .slice none 0 0] := by rw [hW4]; exact xr3.more _
  have xv4 : Box W4 (w.heap.size + 1) #[.int .i64 3, .bool false, .int .i64 0, .string ⟨#[]⟩, .slice none 0 0] := by rw [hW4]; exact xv3.more _
  have hbr4 := xr4.cells
  have hbv4 := xv4.cells
  have hfr4 := xr4.free
  have hfv4 := xv4.free
  clear hW4 xr3 xv3 hbr3 hbv3 hfr3 hfv3 HB3 hz3 hmin hst
  obtain ⟨ae, rfl⟩ : ∃ ae, Q = some ae := (HRD.out.2 (by omega)).imp fun _ h => h.1
  have HRS := Aside0.mk hrs
  clear hrs
  go_loopg [9, 53] 5 (fun gg s9 s53 wr => ∃ j : Nat, j ≤ 4 ∧ 4 < gg + j ∧ s53 = .int .i64 j ∧ s9 = .int .u64 (beI (rs.take j)) ∧ wr = W4)
  case atStart => exact ⟨0, by omega, by omega, rfl, rfl, rfl⟩
  case round =>
    obtain ⟨j, hj, hg, rfl, rfl, rfl⟩ := hrel
    by_cases hlt : j < 4
    · have hlti : (j : Int) < 4 := by omega
      have hj0 : (0 : Int) ≤ (j : Int) := by omega
      have hcell : wr.cell? (ae.add j) = some (.int .u8 (rs.getD j 0)) := by
        obtain ⟨ae', e, h⟩ := (HRD.out.below HB4).2 (by omega)
        cases e
        exact h j (by omega)
      have hcb := HRS.out (rs.getD j 0) (by rw [List.getD_eq_getElem?_getD, List.getElem?_eq_getElem (by omega)]; exact List.getElem_mem _)
      have hbe := beI_take rs j (by omega)
      have hxb := beI_bound j (rs.take j) (by rw [List.length_take]; omega) (fun x hx => HRS.out x (List.mem_of_mem_take hx))
      have hx7 : (256 : Int) ^ j ≤ 72057594037927936 := by
        have : j = 0 ∨ j = 1 ∨ j = 2 ∨ j = 3 ∨ j = 4 ∨ j = 5 ∨ j = 6 ∨ j = 7 := by omega
        rcases this with rfl | rfl | rfl | rfl | rfl | rfl | rfl | rfl <;> decide
      generalize rs.getD j 0 = y at hcell hcb hbe
      generalize beI (rs.take j) = x at hbe hxb
      have hor := or_byte64 x y hxb.1 (by omega) hcb.1 hcb.2
      have HBE := Aside0.mk hbe
      clear hbe
      go_wp2
      go_roundg (gk - 1)
      case measure => omega
      case rel => exact ⟨j + 1, by omega, by omega, by go_num, by rw [HBE.out], rfl⟩
    · obtain rfl : j = 4 := by omega
      clear hlt hj hg
      have hxb := beI_bound 4 (rs.take 4) (by rw [List.length_take]; omega) (fun x hx => HRS.out x (List.mem_of_mem_take hx))
      generalize hxx : beI (rs.take 4) = x at hxb hn
      obtain ⟨q, rfl⟩ : ∃ q : Nat, x = (q : Int) := ⟨x.toNat, by omega⟩
      obtain ⟨m2, hm2⟩ : ∃ m2, m2 = m1 - 4 := ⟨_, rfl⟩
      obtain ⟨c2, hc2⟩ : ∃ c2, c2 = c1 - 4 := ⟨_, rfl⟩
      rw [← hm2, ← hc2] at hsf
      have hmc2 : m2 ≤ c2 := by omega
      have hq6 : (q : Int) < 4294967296 := hxb.2
      have hm9 : m1 ≤ m := by have := HNX.out; omega
      have hu : IntKind.u64.wrap (m2 : Int) = (m2 : Int) := by
        simp [IntKind.wrap, IntKind.signed, IntKind.bits]
        omega
      rw [← hm2] at hn
      have hng : ¬ (q : Int) ≤ (m2 : Int) := by omega
      have hnn : m2 < q := by omega
      clear hm2 hc2 hxb hxx
      go_upto_region 26 with (fail)
      refine wp_goto ?_
      exact ⟨rfl, rfl, xr4, HB4⟩

set_option maxRecDepth 100000 in
set_option maxHeartbeats 3200000 in
theorem dec_3_ok (A : Option Addr) (bs : List Int) (c : Nat) (i : Nat) (w : World) (hr : ReadsB w A bs) (hi : i < bs.length) (hc : bs.length ≤ c) (hbt : ∀ x ∈ bs, 0 ≤ x ∧ x < 256) (hk : bs.getD i 0 = 3) (hs : 4 ≤ bs.length - (i + 1)) (hn : beI ((bs.drop (i + 1)).take 4) ≤ ((bs.length - (i + 1) - 4 : Nat) : Int)) (hright : rightB 3 false 0 (strOfNums (((bs.drop (i + 1)).drop 4).take (beI ((bs.drop (i + 1)).take 4)).toNat)) [] = true) :
    Calls Tryd.prog 36 #[.slice A bs.length c, .int .i64 (i : Int)] w fun e w' => e = .returned (.tuple #[.agg #[.int .i64 3, .bool false, .int .i64 0, .string (strOfNums (((bs.drop (i + 1)).drop 4).take (beI ((bs.drop (i + 1)).take 4)).toNat)), .slice none 0 0], .int .i64 ((i : Int) + 5 + beI ((bs.drop (i + 1)).take 4)), .int .i64 0]) ∧ Below w.heap.size w w' := by
  obtain ⟨ad, rfl, hcell⟩ := hr.2 (by omega)
  have hci : ∀ W, Below w.heap.size w W → W.cell? (ad.add i) = some (.int .u8 3) := fun W hW => by
    obtain ⟨ad', e, h⟩ := (hr.below hW).2 (by omega)
    cases e
    rw [h i hi, hk]
  have hmx := hr.1
  have hrd := hr.drop c (i + 1) hc
  obtain ⟨m, hm⟩ : ∃ m, m = bs.length := ⟨_, rfl⟩
  have hlr : (bs.drop (i + 1)).length = m - (i + 1) := by rw [List.length_drop, hm]
  (try rw [← hm] at hs)
  (try rw [← hm] at hn)
  rw [← hm] at hi hc hmx ⊢
  have hsl : ∀ W, (Instr.slice 30 (.slice (some ad) m c) (some (.int .i64 ((i : Int) + 1))) none none).run Tryd.prog W = .ok (.slice (cutA (some ad) c (i + 1)) (m - (i + 1)) (c - (i + 1))) W := fun W => slice_from W (some ad) m c (i + 1) (by omega) (by omega)
  generalize cutA (some ad) c (i + 1) = Q at hsl hrd
  have hrs : ∀ x ∈ bs.drop (i + 1), 0 ≤ x ∧ x < 256 := fun x hx => hbt x (List.mem_of_mem_drop hx)
  first
    | generalize bs.drop (i + 1) = rs at hlr hrd hrs hn hright ⊢
    | generalize bs.drop (i + 1) = rs at hlr hrd hrs hn ⊢
    | generalize bs.drop (i + 1) = rs at hlr hrd hrs ⊢
  have hii : (i : Int) < (m : Int) := by omega
  have hi0 : (0 : Int) ≤ (i : Int) := by omega
  have HM := Aside0.mk hm
  have HR := Aside0.mk hr
  have HRD := Aside0.mk hrd
  have HLR := Aside0.mk hlr
  have HCI := Aside0.mk hci
  clear hm hr hk hcell hrd hlr hci hbt
  go_enter Tryd.func36, Tryd.ntmps36
  go_wp2
  go_step3
  go_upto_region 6 with (fail)
  obtain ⟨W2, hW2⟩ : ∃ W2, W2 = (w.alloc (.cells #[.int .i64 0, .bool false, .int .i64 0, .string ⟨#[]⟩, .slice none 0 0] 25)).alloc (.cells #[.int .i64 0, .bool false, .int .i64 0, .string ⟨#[]⟩, .slice none 0 0] 25) := ⟨_, rfl⟩
  rw [← hW2]
  have HB2 : Below w.heap.size w W2 := by rw [hW2]; exact below_more (below_more (Below.refl _ _) _) _
  have hz2 : w.heap.size + 1 < W2.heap.size := by rw [hW2]; simp
  have xr2 : Box W2 w.heap.size #[.int .i64 0, .bool false, .int .i64 0, .string ⟨#[]⟩, .slice none 0 0] := by rw [hW2]; exact (Box.new w _).more _
  have xv2 : Box W2 (w.heap.size + 1) #[.int .i64 0, .bool false, .int .i64 0, .string ⟨#[]⟩, .slice none 0 0] := by rw [hW2]; have h := Box.new (w.alloc (.cells #[.int .i64 0, .bool false, .int .i64 0, .string ⟨#[]⟩, .slice none 0 0] 25)) #[.int .i64 0, .bool false, .int .i64 0, .string ⟨#[]⟩, .slice none 0 0]; simpa using h
  have hbr2 := xr2.cells
  have hbv2 := xv2.cells
  have hfr2 := xr2.free
  have hfv2 := xv2.free
  have hcx := HCI.out W2 HB2
  clear hW2
  go_upto_region 8 with (fail)
  obtain ⟨W3, hW3⟩ : ∃ W3, W3 = W2.setCell ⟨w.heap.size + 1, 0, none⟩ (.int .i64 3) := ⟨_, rfl⟩
  rw [← hW3]
  have HB3 : Below w.heap.size w W3 := by rw [hW3]; exact below_set HB2 (by simp) _
  have hz3 : w.heap.size + 1 < W3.heap.size := by rw [hW3]; simpa using hz2
  have xr3 : Box W3 w.heap.size #[.int .i64 0, .bool false, .int .i64 0, .string ⟨#[]⟩, .slice none 0 0] := by rw [hW3]; exact xr2.off _ _ (by simp)
  have xv3 : Box W3 (w.heap.size + 1) #[.int .i64 3, .bool false, .int .i64 0, .string ⟨#[]⟩, .slice none 0 0] := by rw [hW3]; exact xv2.put 0 _
  have hbr3 := xr3.cells
  have hbv3 := xv3.cells
  have hfr3 := xr3.free
  have hfv3 := xv3.free
  clear hW3 xr2 xv2 hbr2 hbv2 hfr2 hfv2 HB2 hz2
  obtain ⟨m1, hm1⟩ : ∃ m1, m1 = m - (i + 1) := ⟨_, rfl⟩
  obtain ⟨c1, hc1⟩ : ∃ c1, c1 = c - (i + 1) := ⟨_, rfl⟩
  rw [← hm1, ← hc1]
  have hmc1 : m1 ≤ c1 := by omega
  have HLR2 : rs.length = m1 := by rw [HLR.out, hm1]
  (try rw [← hm1] at hs)
  (try rw [← hm1] at hn)
  have hnx : (m : Int) - (m1 : Int) = (i : Int) + 1 := by omega
  have HNX := Aside0.mk hnx
  clear hnx hm1 hc1 hsl hcx
  have hst : ∀ W, (Instr.slice 30 (.slice Q m1 c1) none (some (.int .i64 4)) none).run Tryd.prog W = .ok (.slice Q 4 c1) W := fun W => slice_to W Q m1 c1 4 (by omega) (by omega)
  have hsf : ∀ W, (Instr.slice 30 (.slice Q m1 c1) (some (.int .i64 4)) none none).run Tryd.prog W = .ok (.slice (cutA Q c1 4) (m1 - 4) (c1 - 4)) W := fun W => slice_from W Q m1 c1 4 (by omega) (by omega)
  have HR2 := (HRD.out.drop c1 4 (by omega))
  generalize cutA Q c1 4 = Q2 at hsf HR2
  have hmin : min (3 : Int) 7 = 3 := by decide
  go_upto_region 11 with (fail)
  obtain ⟨W4, hW4⟩ : ∃ W4, W4 = W3.alloc (.cells #[.int .i64 0, .int .i64 1, .int .i64 8, .int .i64 4, .int .i64 8, .int .i64 8, .int .i64 1, .int .i64 0] 3) := ⟨_, rfl⟩
  rw [← hW4]
  have HB4 : Below w.heap.size w W4 := by rw [hW4]; exact below_more HB3 _
  have hz4 : w.heap.size + 1 < W4.heap.size := by rw [hW4]; simp; omega
  have xr4 : Box W4 w.heap.size #[.int .i64 0, .bool false, .int .i64 0, .string ⟨#[]⟩, .slice none 0 0] := by rw [hW4]; exact xr3.more _
  have xv4 : Box W4 (w.heap.size + 1) #[.int .i64 3, .bool false, .int .i64 0, .string ⟨#[]⟩, .slice none 0 0] := by rw [hW4]; exact xv3.more _
  have hbr4 := xr4.cells
  have hbv4 := xv4.cells
  have hfr4 := xr4.free
  have hfv4 := xv4.free
  clear hW4 xr3 xv3 hbr3 hbv3 hfr3 hfv3 HB3 hz3 hmin hst
  obtain ⟨ae, rfl⟩ : ∃ ae, Q = some ae := (HRD.out.2 (by omega)).imp fun _ h => h.1
  have HRS := Aside0.mk hrs
  clear hrs
  go_loopg [9, 53] 5 (fun gg s9 s53 wr => ∃ j : Nat, j ≤ 4 ∧ 4 < gg + j ∧ s53 = .int .i64 j ∧ s9 = .int .u64 (beI (rs.take j)) ∧ wr = W4)
  case atStart => exact ⟨0, by omega, by omega, rfl, rfl, rfl⟩
  case round =>
    obtain ⟨j, hj, hg, rfl, rfl, rfl⟩ := hrel
    by_cases hlt : j < 4
    · have hlti : (j : Int) < 4 := by omega
      have hj0 : (0 : Int) ≤ (j : Int) := by omega
      have hcell : wr.cell? (ae.add j) = some (.int .u8 (rs.getD j 0)) := by
        obtain ⟨ae', e, h⟩ := (HRD.out.below HB4).2 (by omega)
        cases e
        exact h j (by omega)
      have hcb := HRS.out (rs.getD j 0) (by rw [List.getD_eq_getElem?_getD, List.getElem?_eq_getElem (by omega)]; exact List.getElem_mem _)
      have hbe := beI_take rs j (by omega)
      have hxb := beI_bound j (rs.take j) (by rw [List.length_take]; omega) (fun x hx => HRS.out x (List.mem_of_mem_take hx))
      have hx7 : (256 : Int) ^ j ≤ 72057594037927936 := by
        have : j = 0 ∨ j = 1 ∨ j = 2 ∨ j = 3 ∨ j = 4 ∨ j = 5 ∨ j = 6 ∨ j = 7 := by omega
        rcases this with rfl | rfl | rfl | rfl | rfl | rfl | rfl | rfl <;> decide
      generalize rs.getD j 0 = y at hcell hcb hbe
      generalize beI (rs.take j) = x at hbe hxb
      have hor := or_byte64 x y hxb.1 (by omega) hcb.1 hcb.2
      have HBE := Aside0.mk hbe
      clear hbe
      go_wp2
      go_roundg (gk - 1)
      case measure => omega
      case rel => exact ⟨j + 1, by omega, by omega, by go_num, by rw [HBE.out], rfl⟩
    · obtain rfl : j = 4 := by omega
      clear hlt hj hg
      have hxb := beI_bound 4 (rs.take 4) (by rw [List.length_take]; omega) (fun x hx => HRS.out x (List.mem_of_mem_take hx))
      generalize hxx : beI (rs.take 4) = x at hxb hn hright
      obtain ⟨q, rfl⟩ : ∃ q : Nat, x = (q : Int) := ⟨x.toNat, by omega⟩
      obtain ⟨m2, hm2⟩ : ∃ m2, m2 = m1 - 4 := ⟨_, rfl⟩
      obtain ⟨c2, hc2⟩ : ∃ c2, c2 = c1 - 4 := ⟨_, rfl⟩
      rw [← hm2, ← hc2] at hsf
      have hmc2 : m2 ≤ c2 := by omega
      have hq6 : (q : Int) < 4294967296 := hxb.2
      have hm9 : m1 ≤ m := by have := HNX.out; omega
      have hu : IntKind.u64.wrap (m2 : Int) = (m2 : Int) := by
        simp [IntKind.wrap, IntKind.signed, IntKind.bits]
        omega
      rw [← hm2] at hn
      rw [Int.toNat_natCast] at hright
      have hqm : q ≤ m2 := by omega
      have hng : ¬ (m2 : Int) < (q : Int) := by omega
      have hnn : ¬ m2 < q := by omega
      obtain ⟨l, hl⟩ : ∃ l, l = (rs.drop 4).take q := ⟨_, rfl⟩
      rw [← hl] at hright
      have hll : l.length = q := by rw [hl, List.length_take, List.length_drop]; omega
      have HRQ : Aside0 (∀ W, Below w.heap.size w W → ReadsB W Q2 l) := ⟨fun W hW => by rw [hl]; exact (HR2.below hW).take q⟩
      have hcv : ∀ W, ReadsB W Q2 l → (convert 30 9 (.slice Q2 q c2)).run Tryd.prog W = .ok (.string (strOfNums l)) W := fun W hW => by
        obtain ⟨S, h, e⟩ := conv_reads (c := c2) hW
        rw [hll, e] at h
        exact h
      have hst2 : ∀ W, (Instr.slice 30 (.slice Q2 m2 c2) none (some (.int .u64 (q : Int))) none).run Tryd.prog W = .ok (.slice Q2 q c2) W := fun W => slice_to64 W Q2 m2 c2 q hqm hmc2 hq6
      have hsf2 : ∀ W, (Instr.slice 30 (.slice Q2 m2 c2) (some (.int .u64 (q : Int))) none none).run Tryd.prog W = .ok (.slice (cutA Q2 c2 q) (m2 - q) (c2 - q)) W := fun W => slice_from64 W Q2 m2 c2 q hqm hmc2 hq6
      have HML : Aside0 (m2 - q + q + 4 = m1) := ⟨by omega⟩
      have HXX := Aside0.mk hxx
      have HLL := Aside0.mk hl
      generalize hTT : strOfNums l = T at hcv hright
      have HTT := Aside0.mk hTT
      have hL4 := HRQ.out wr HB4
      clear hm2 hc2 hxb hxx hl hll HR2 hTT
      go_upto_region 26 with (fail)
      refine wp_region_held_drew (S := (fun WW => ReadsB WW Q2 l)) (by kernel_rfl) ?_ (fun hHeld => ?_)
      · first | exact hL5 | exact hL4
      refine take_in (i := 0) (v := ?v0t) rfl (by kernel_rfl) (by kernel_rfl) (by kernel_rfl) (fun _ _ _ h => h) (by rfl) ?hy0t (by assumption) ?_
      case hy0t => intro WW hSw; (try dsimp only at hSw); go_simp; try with_reducible rfl
      try simp only [Act.put, List.setIfInBounds_toArray, List.set_cons_zero, List.set_cons_succ]
      refine take_in (i := 1) (v := ?v1t) rfl (by kernel_rfl) (by kernel_rfl) (by kernel_rfl) (fun _ _ _ h => h) (by rfl) ?hy1t (by assumption) ?_
      case hy1t => intro WW hSw; (try dsimp only at hSw); go_simp; try with_reducible rfl
      try simp only [Act.put, List.setIfInBounds_toArray, List.set_cons_zero, List.set_cons_succ]
      refine take_in (i := 2) (v := .slice Q2 q c2) rfl (by kernel_rfl) (by kernel_rfl) (by kernel_rfl) (fun _ _ _ h => h) (by rfl) ?hy2t (by assumption) ?_
      case hy2t => intro WW hSw; have hh := hst2 WW; go_simp; try with_reducible rfl
      try simp only [Act.put, List.setIfInBounds_toArray, List.set_cons_zero, List.set_cons_succ]
      refine take_in (i := 3) (v := .string T) rfl (by kernel_rfl) (by kernel_rfl) (by kernel_rfl) (fun _ _ _ h => h) (by rfl) ?hy3t (by assumption) ?_
      case hy3t => intro WW hSw; have hh := hcv WW hSw; go_simp; try with_reducible rfl
      try simp only [Act.put, List.setIfInBounds_toArray, List.set_cons_zero, List.set_cons_succ]
      refine take_in (i := 4) (v := ?v4t) rfl (by kernel_rfl) (by kernel_rfl) (by kernel_rfl) (fun _ _ _ h => h) (by rfl) ?hy4t (by assumption) ?_
      case hy4t => intro WW hSw; (try dsimp only at hSw); go_simp; try with_reducible rfl
      try simp only [Act.put, List.setIfInBounds_toArray, List.set_cons_zero, List.set_cons_succ]
      refine take_in (i := 5) (v := ?v5t) rfl (by kernel_rfl) (by kernel_rfl) (by kernel_rfl) (fun _ _ _ h => h) (by rfl) ?hy5t (by assumption) ?_
      case hy5t => intro WW hSw; (try dsimp only at hSw); go_simp; try with_reducible rfl
      try simp only [Act.put, List.setIfInBounds_toArray, List.set_cons_zero, List.set_cons_succ]
      refine take_in (i := 6) (v := .slice (cutA Q2 c2 q) (m2 - q) (c2 - q)) rfl (by kernel_rfl) (by kernel_rfl) (by kernel_rfl) (fun _ _ _ h => h) (by rfl) ?hy6t (by assumption) ?_
      case hy6t => intro WW hSw; have hh := hsf2 WW; go_simp; try with_reducible rfl
      try simp only [Act.put, List.setIfInBounds_toArray, List.set_cons_zero, List.set_cons_succ]
      refine take_in (i := 7) (v := ?v7t) rfl (by kernel_rfl) (by kernel_rfl) (by kernel_rfl) (fun _ _ _ h => h) (by rfl) ?hy7t (by assumption) ?_
      case hy7t => intro WW hSw; (try dsimp only at hSw); go_simp; try with_reducible rfl
      try simp only [Act.put, List.setIfInBounds_toArray, List.set_cons_zero, List.set_cons_succ]
      refine one_step (i := 8) (by kernel_rfl) rfl (fun K hK => ?_)
      go_simp
      obtain ⟨W5, hW5⟩ : ∃ W5, W5 = wr.setCell ⟨w.heap.size + 1, 3, none⟩ (.string T) := ⟨_, rfl⟩
      rw [← hW5]
      have HB5 : Below w.heap.size w W5 := by rw [hW5]; exact below_set HB4 (by simp) _
      have hz5 : w.heap.size + 1 < W5.heap.size := by rw [hW5]; simpa using hz4
      have xr5 : Box W5 w.heap.size #[.int .i64 0, .bool false, .int .i64 0, .string ⟨#[]⟩, .slice none 0 0] := by rw [hW5]; exact xr4.off _ _ (by simp)
      have xv5 : Box W5 (w.heap.size + 1) #[.int .i64 3, .bool false, .int .i64 0, .string T, .slice none 0 0] := by rw [hW5]; exact xv4.put 3 _
      have hbr5 := xr5.cells
      have hbv5 := xv5.cells
      have hfr5 := xr5.free
      have hfv5 := xv5.free
      clear hW5 xr4 xv4 hbr4 hbv4 hfr4 hfv4 HB4 hz4
      have hL5 := HRQ.out W5 HB5
      refine hK.out _ _ ?_ (fun hHeld => ?_)
      · first | exact hL5 | exact hL4
      clear hK K
      try simp only [Act.put, List.setIfInBounds_toArray, List.set_cons_zero, List.set_cons_succ]
      refine take_in (i := 9) (v := ?v9t) rfl (by kernel_rfl) (by kernel_rfl) (by kernel_rfl) (fun _ _ _ h => h) (by rfl) ?hy9t (by assumption) ?_
      case hy9t => intro WW hSw; (try dsimp only at hSw); go_simp; try with_reducible rfl
      try simp only [Act.put, List.setIfInBounds_toArray, List.set_cons_zero, List.set_cons_succ]
      refine wpAnyH_done (by kernel_rfl) ?_ _
      obtain ⟨Wd, hWd⟩ : ∃ Wd, Wd = W5.drew := ⟨_, rfl⟩
      rw [← hWd]
      have HBd : Below w.heap.size w Wd := by rw [hWd]; exact HB5.drew
      have hzd : w.heap.size + 1 < Wd.heap.size := by rw [hWd]; exact hz5
      have xrd : Box Wd w.heap.size #[.int .i64 0, .bool false, .int .i64 0, .string ⟨#[]⟩, .slice none 0 0] := by rw [hWd]; exact xr5
      have xvd : Box Wd (w.heap.size + 1) #[.int .i64 3, .bool false, .int .i64 0, .string T, .slice none 0 0] := by rw [hWd]; exact xv5
      have hbrd := xrd.cells
      have hbvd := xvd.cells
      have hfrd := xrd.free
      have hfvd := xvd.free
      clear hWd xr5 xv5 hbr5 hbv5 hfr5 hfv5 HB5 hz5
      obtain ⟨m3, hm3⟩ : ∃ m3, m3 = m2 - q := ⟨_, rfl⟩
      rw [← hm3]
      have HM3 := Aside0.mk hm3
      clear hm3 hst2 hsf2 hcv hL4 hL5 HRQ hHeld
      have hRt : ∀ W, Below w.heap.size w W → Calls Tryd.prog 22 #[.agg #[.int .i64 3, .bool false, .int .i64 0, .string T, .slice none 0 0]] W fun e w' => e = .returned (.bool true) ∧ Below W.heap.size W w' := fun W hW => by
        have h := right_any 3 0 false T none [] 0 W ⟨by decide, fun h => absurd h (by decide)⟩
        rw [hright] at h
        exact h
      go_wp2_with (go_at_call 22; refine (hRt _ HBd).mono ?_)
      first
        | (intro e W6 he hb6; subst he)
        | rintro e W6 ⟨rfl, hb6⟩
      have HB6 := below_then HBd hb6
      have hz6 : w.heap.size + 1 < W6.heap.size := by have := hb6.size; omega
      have xr6 := xrd.kept hb6
      have xv6 := xvd.kept hb6
      have hbr6 := xr6.cells
      have hbv6 := xv6.cells
      have hfr6 := xr6.free
      have hfv6 := xv6.free
      clear hb6 xrd xvd hbrd hbvd hfrd hfvd HBd hzd
      have hnw : RowKit.wrap64 ((m : Int) - ((m3 : Nat) : Int)) = (i : Int) + 5 + (q : Int) := by
        have h1 := HNX.out
        have h2 := HML.out
        have h3 := HM3.out
        rw [show (m : Int) - ((m3 : Nat) : Int) = (i : Int) + 5 + (q : Int) by omega]
        unfold RowKit.wrap64
        omega
      go_wp2
      obtain ⟨W7, hW7⟩ : ∃ W7, W7 = (((((W6.setCell ⟨w.heap.size, 0, none⟩ (.int .i64 3)).setCell ⟨w.heap.size, 1, none⟩ (.bool false)).setCell ⟨w.heap.size, 2, none⟩ (.int .i64 0)).setCell ⟨w.heap.size, 3, none⟩ (.string T)).setCell ⟨w.heap.size, 4, none⟩ (.slice none 0 0)) := ⟨_, rfl⟩
      rw [← hW7]
      have HB7 : Below w.heap.size w W7 := by rw [hW7]; exact below_set (below_set (below_set (below_set (below_set HB6 (by simp) _) (by simp) _) (by simp) _) (by simp) _) (by simp) _
      have xr7 : Box W7 w.heap.size #[.int .i64 3, .bool false, .int .i64 0, .string T, .slice none 0 0] := by rw [hW7]; exact ((((xr6.put 0 _).put 1 _).put 2 _).put 3 _).put 4 _
      rw [Exit.noGoto_ret]
      (try subst hyy)
      (try subst hxx)
      refine bodyPost_ret (results_c3 _ rfl rfl (box_load xr7 rfl rfl rfl rfl rfl)) rfl ?_
      rw [HXX.out, Int.toNat_natCast, ← HLL.out, HTT.out]
      first
        | exact ⟨rfl, HB7⟩
        | exact ⟨congrArg (fun z => Ending.returned (Value.tuple #[_, Value.int .i64 z, Value.int .i64 0])) hnw, HB7⟩

set_option maxRecDepth 100000 in
set_option maxHeartbeats 3200000 in
theorem dec_3_not (A : Option Addr) (bs : List Int) (c : Nat) (i : Nat) (w : World) (hr : ReadsB w A bs) (hi : i < bs.length) (hc : bs.length ≤ c) (hbt : ∀ x ∈ bs, 0 ≤ x ∧ x < 256) (hk : bs.getD i 0 = 3) (hs : 4 ≤ bs.length - (i + 1)) (hn : beI ((bs.drop (i + 1)).take 4) ≤ ((bs.length - (i + 1) - 4 : Nat) : Int)) (hright : rightB 3 false 0 (strOfNums (((bs.drop (i + 1)).drop 4).take (beI ((bs.drop (i + 1)).take 4)).toNat)) [] = false) :
    Calls Tryd.prog 36 #[.slice A bs.length c, .int .i64 (i : Int)] w fun e w' => e = .returned (.tuple #[.agg #[.int .i64 0, .bool false, .int .i64 0, .string ⟨#[]⟩, .slice none 0 0], .int .i64 0, .int .i64 21]) ∧ Below w.heap.size w w' := by
  obtain ⟨ad, rfl, hcell⟩ := hr.2 (by omega)
  have hci : ∀ W, Below w.heap.size w W → W.cell? (ad.add i) = some (.int .u8 3) := fun W hW => by
    obtain ⟨ad', e, h⟩ := (hr.below hW).2 (by omega)
    cases e
    rw [h i hi, hk]
  have hmx := hr.1
  have hrd := hr.drop c (i + 1) hc
  obtain ⟨m, hm⟩ : ∃ m, m = bs.length := ⟨_, rfl⟩
  have hlr : (bs.drop (i + 1)).length = m - (i + 1) := by rw [List.length_drop, hm]
  (try rw [← hm] at hs)
  (try rw [← hm] at hn)
  rw [← hm] at hi hc hmx ⊢
  have hsl : ∀ W, (Instr.slice 30 (.slice (some ad) m c) (some (.int .i64 ((i : Int) + 1))) none none).run Tryd.prog W = .ok (.slice (cutA (some ad) c (i + 1)) (m - (i + 1)) (c - (i + 1))) W := fun W => slice_from W (some ad) m c (i + 1) (by omega) (by omega)
  generalize cutA (some ad) c (i + 1) = Q at hsl hrd
  have hrs : ∀ x ∈ bs.drop (i + 1), 0 ≤ x ∧ x < 256 := fun x hx => hbt x (List.mem_of_mem_drop hx)
  first
    | generalize bs.drop (i + 1) = rs at hlr hrd hrs hn hright ⊢
    | generalize bs.drop (i + 1) = rs at hlr hrd hrs hn ⊢
    | generalize bs.drop (i + 1) = rs at hlr hrd hrs ⊢
  have hii : (i : Int) < (m : Int) := by omega
  have hi0 : (0 : Int) ≤ (i : Int) := by omega
  have HM := Aside0.mk hm
  have HR := Aside0.mk hr
  have HRD := Aside0.mk hrd
  have HLR := Aside0.mk hlr
  have HCI := Aside0.mk hci
  clear hm hr hk hcell hrd hlr hci hbt
  go_enter Tryd.func36, Tryd.ntmps36
  go_wp2
  go_step3
  go_upto_region 6 with (fail)
  obtain ⟨W2, hW2⟩ : ∃ W2, W2 = (w.alloc (.cells #[.int .i64 0, .bool false, .int .i64 0, .string ⟨#[]⟩, .slice none 0 0] 25)).alloc (.cells #[.int .i64 0, .bool false, .int .i64 0, .string ⟨#[]⟩, .slice none 0 0] 25) := ⟨_, rfl⟩
  rw [← hW2]
  have HB2 : Below w.heap.size w W2 := by rw [hW2]; exact below_more (below_more (Below.refl _ _) _) _
  have hz2 : w.heap.size + 1 < W2.heap.size := by rw [hW2]; simp
  have xr2 : Box W2 w.heap.size #[.int .i64 0, .bool false, .int .i64 0, .string ⟨#[]⟩, .slice none 0 0] := by rw [hW2]; exact (Box.new w _).more _
  have xv2 : Box W2 (w.heap.size + 1) #[.int .i64 0, .bool false, .int .i64 0, .string ⟨#[]⟩, .slice none 0 0] := by rw [hW2]; have h := Box.new (w.alloc (.cells #[.int .i64 0, .bool false, .int .i64 0, .string ⟨#[]⟩, .slice none 0 0] 25)) #[.int .i64 0, .bool false, .int .i64 0, .string ⟨#[]⟩, .slice none 0 0]; simpa using h
  have hbr2 := xr2.cells
  have hbv2 := xv2.cells
  have hfr2 := xr2.free
  have hfv2 := xv2.free
  have hcx := HCI.out W2 HB2
  clear hW2
  go_upto_region 8 with (fail)
  obtain ⟨W3, hW3⟩ : ∃ W3, W3 = W2.setCell ⟨w.heap.size + 1, 0, none⟩ (.int .i64 3) := ⟨_, rfl⟩
  rw [← hW3]
  have HB3 : Below w.heap.size w W3 := by rw [hW3]; exact below_set HB2 (by simp) _
  have hz3 : w.heap.size + 1 < W3.heap.size := by rw [hW3]; simpa using hz2
  have xr3 : Box W3 w.heap.size #[.int .i64 0, .bool false, .int .i64 0, .string ⟨#[]⟩, .slice none 0 0] := by rw [hW3]; exact xr2.off _ _ (by simp)
  have xv3 : Box W3 (w.heap.size + 1) #[.int .i64 3, .bool false, .int .i64 0, .string ⟨#[]⟩, .slice none 0 0] := by rw [hW3]; exact xv2.put 0 _
  have hbr3 := xr3.cells
  have hbv3 := xv3.cells
  have hfr3 := xr3.free
  have hfv3 := xv3.free
  clear hW3 xr2 xv2 hbr2 hbv2 hfr2 hfv2 HB2 hz2
  obtain ⟨m1, hm1⟩ : ∃ m1, m1 = m - (i + 1) := ⟨_, rfl⟩
  obtain ⟨c1, hc1⟩ : ∃ c1, c1 = c - (i + 1) := ⟨_, rfl⟩
  rw [← hm1, ← hc1]
  have hmc1 : m1 ≤ c1 := by omega
  have HLR2 : rs.length = m1 := by rw [HLR.out, hm1]
  (try rw [← hm1] at hs)
  (try rw [← hm1] at hn)
  have hnx : (m : Int) - (m1 : Int) = (i : Int) + 1 := by omega
  have HNX := Aside0.mk hnx
  clear hnx hm1 hc1 hsl hcx
  have hst : ∀ W, (Instr.slice 30 (.slice Q m1 c1) none (some (.int .i64 4)) none).run Tryd.prog W = .ok (.slice Q 4 c1) W := fun W => slice_to W Q m1 c1 4 (by omega) (by omega)
  have hsf : ∀ W, (Instr.slice 30 (.slice Q m1 c1) (some (.int .i64 4)) none none).run Tryd.prog W = .ok (.slice (cutA Q c1 4) (m1 - 4) (c1 - 4)) W := fun W => slice_from W Q m1 c1 4 (by omega) (by omega)
  have HR2 := (HRD.out.drop c1 4 (by omega))
  generalize cutA Q c1 4 = Q2 at hsf HR2
  have hmin : min (3 : Int) 7 = 3 := by decide
  go_upto_region 11 with (fail)
  obtain ⟨W4, hW4⟩ : ∃ W4, W4 = W3.alloc (.cells #[.int .i64 0, .int .i64 1, .int .i64 8, .int .i64 4, .int .i64 8, .int .i64 8, .int .i64 1, .int .i64 0] 3) := ⟨_, rfl⟩
  rw [← hW4]
  have HB4 : Below w.heap.size w W4 := by rw [hW4]; exact below_more HB3 _
  have hz4 : w.heap.size + 1 < W4.heap.size := by rw [hW4]; simp; omega
  have xr4 : Box W4 w.heap.size #[.int .i64 0, .bool false, .int .i64 0, .string ⟨#[]⟩, .slice none 0 0] := by rw [hW4]; exact xr3.more _
  have xv4 : Box W4 (w.heap.size + 1) #[.int .i64 3, .bool false, .int .i64 0, .string ⟨#[]⟩, .slice none 0 0] := by rw [hW4]; exact xv3.more _
  have hbr4 := xr4.cells
  have hbv4 := xv4.cells
  have hfr4 := xr4.free
  have hfv4 := xv4.free
  clear hW4 xr3 xv3 hbr3 hbv3 hfr3 hfv3 HB3 hz3 hmin hst
  obtain ⟨ae, rfl⟩ : ∃ ae, Q = some ae := (HRD.out.2 (by omega)).imp fun _ h => h.1
  have HRS := Aside0.mk hrs
  clear hrs
  go_loopg [9, 53] 5 (fun gg s9 s53 wr => ∃ j : Nat, j ≤ 4 ∧ 4 < gg + j ∧ s53 = .int .i64 j ∧ s9 = .int .u64 (beI (rs.take j)) ∧ wr = W4)
  case atStart => exact ⟨0, by omega, by omega, rfl, rfl, rfl⟩
  case round =>
    obtain ⟨j, hj, hg, rfl, rfl, rfl⟩ := hrel
    by_cases hlt : j < 4
    · have hlti : (j : Int) < 4 := by omega
      have hj0 : (0 : Int) ≤ (j : Int) := by omega
      have hcell : wr.cell? (ae.add j) = some (.int .u8 (rs.getD j 0)) := by
        obtain ⟨ae', e, h⟩ := (HRD.out.below HB4).2 (by omega)
        cases e
        exact h j (by omega)
      have hcb := HRS.out (rs.getD j 0) (by rw [List.getD_eq_getElem?_getD, List.getElem?_eq_getElem (by omega)]; exact List.getElem_mem _)
      have hbe := beI_take rs j (by omega)
      have hxb := beI_bound j (rs.take j) (by rw [List.length_take]; omega) (fun x hx => HRS.out x (List.mem_of_mem_take hx))
      have hx7 : (256 : Int) ^ j ≤ 72057594037927936 := by
        have : j = 0 ∨ j = 1 ∨ j = 2 ∨ j = 3 ∨ j = 4 ∨ j = 5 ∨ j = 6 ∨ j = 7 := by omega
        rcases this with rfl | rfl | rfl | rfl | rfl | rfl | rfl | rfl <;> decide
      generalize rs.getD j 0 = y at hcell hcb hbe
      generalize beI (rs.take j) = x at hbe hxb
      have hor := or_byte64 x y hxb.1 (by omega) hcb.1 hcb.2
      have HBE := Aside0.mk hbe
      clear hbe
      go_wp2
      go_roundg (gk - 1)
      case measure => omega
      case rel => exact ⟨j + 1, by omega, by omega, by go_num, by rw [HBE.out], rfl⟩
    · obtain rfl : j = 4 := by omega
      clear hlt hj hg
      have hxb := beI_bound 4 (rs.take 4) (by rw [List.length_take]; omega) (fun x hx => HRS.out x (List.mem_of_mem_take hx))
      generalize hxx : beI (rs.take 4) = x at hxb hn hright
      obtain ⟨q, rfl⟩ : ∃ q : Nat, x = (q : Int) := ⟨x.toNat, by omega⟩
      obtain ⟨m2, hm2⟩ : ∃ m2, m2 = m1 - 4 := ⟨_, rfl⟩
      obtain ⟨c2, hc2⟩ : ∃ c2, c2 = c1 - 4 := ⟨_, rfl⟩
      rw [← hm2, ← hc2] at hsf
      have hmc2 : m2 ≤ c2 := by omega
      have hq6 : (q : Int) < 4294967296 := hxb.2
      have hm9 : m1 ≤ m := by have := HNX.out; omega
      have hu : IntKind.u64.wrap (m2 : Int) = (m2 : Int) := by
        simp [IntKind.wrap, IntKind.signed, IntKind.bits]
        omega
      rw [← hm2] at hn
      rw [Int.toNat_natCast] at hright
      have hqm : q ≤ m2 := by omega
      have hng : ¬ (m2 : Int) < (q : Int) := by omega
      have hnn : ¬ m2 < q := by omega
      obtain ⟨l, hl⟩ : ∃ l, l = (rs.drop 4).take q := ⟨_, rfl⟩
      rw [← hl] at hright
      have hll : l.length = q := by rw [hl, List.length_take, List.length_drop]; omega
      have HRQ : Aside0 (∀ W, Below w.heap.size w W → ReadsB W Q2 l) := ⟨fun W hW => by rw [hl]; exact (HR2.below hW).take q⟩
      have hcv : ∀ W, ReadsB W Q2 l → (convert 30 9 (.slice Q2 q c2)).run Tryd.prog W = .ok (.string (strOfNums l)) W := fun W hW => by
        obtain ⟨S, h, e⟩ := conv_reads (c := c2) hW
        rw [hll, e] at h
        exact h
      have hst2 : ∀ W, (Instr.slice 30 (.slice Q2 m2 c2) none (some (.int .u64 (q : Int))) none).run Tryd.prog W = .ok (.slice Q2 q c2) W := fun W => slice_to64 W Q2 m2 c2 q hqm hmc2 hq6
      have hsf2 : ∀ W, (Instr.slice 30 (.slice Q2 m2 c2) (some (.int .u64 (q : Int))) none none).run Tryd.prog W = .ok (.slice (cutA Q2 c2 q) (m2 - q) (c2 - q)) W := fun W => slice_from64 W Q2 m2 c2 q hqm hmc2 hq6
      have HML : Aside0 (m2 - q + q + 4 = m1) := ⟨by omega⟩
      have HXX := Aside0.mk hxx
      have HLL := Aside0.mk hl
      generalize hTT : strOfNums l = T at hcv hright
      have HTT := Aside0.mk hTT
      have hL4 := HRQ.out wr HB4
      clear hm2 hc2 hxb hxx hl hll HR2 hTT
      go_upto_region 26 with (fail)
      refine wp_region_held_drew (S := (fun WW => ReadsB WW Q2 l)) (by kernel_rfl) ?_ (fun hHeld => ?_)
      · first | exact hL5 | exact hL4
      refine take_in (i := 0) (v := ?v0t) rfl (by kernel_rfl) (by kernel_rfl) (by kernel_rfl) (fun _ _ _ h => h) (by rfl) ?hy0t (by assumption) ?_
      case hy0t => intro WW hSw; (try dsimp only at hSw); go_simp; try with_reducible rfl
      try simp only [Act.put, List.setIfInBounds_toArray, List.set_cons_zero, List.set_cons_succ]
      refine take_in (i := 1) (v := ?v1t) rfl (by kernel_rfl) (by kernel_rfl) (by kernel_rfl) (fun _ _ _ h => h) (by rfl) ?hy1t (by assumption) ?_
      case hy1t => intro WW hSw; (try dsimp only at hSw); go_simp; try with_reducible rfl
      try simp only [Act.put, List.setIfInBounds_toArray, List.set_cons_zero, List.set_cons_succ]
      refine take_in (i := 2) (v := .slice Q2 q c2) rfl (by kernel_rfl) (by kernel_rfl) (by kernel_rfl) (fun _ _ _ h => h) (by rfl) ?hy2t (by assumption) ?_
      case hy2t => intro WW hSw; have hh := hst2 WW; go_simp; try with_reducible rfl
      try simp only [Act.put, List.setIfInBounds_toArray, List.set_cons_zero, List.set_cons_succ]
      refine take_in (i := 3) (v := .string T) rfl (by kernel_rfl) (by kernel_rfl) (by kernel_rfl) (fun _ _ _ h => h) (by rfl) ?hy3t (by assumption) ?_
      case hy3t => intro WW hSw; have hh := hcv WW hSw; go_simp; try with_reducible rfl
      try simp only [Act.put, List.setIfInBounds_toArray, List.set_cons_zero, List.set_cons_succ]
      refine take_in (i := 4) (v := ?v4t) rfl (by kernel_rfl) (by kernel_rfl) (by kernel_rfl) (fun _ _ _ h => h) (by rfl) ?hy4t (by assumption) ?_
      case hy4t => intro WW hSw; (try dsimp only at hSw); go_simp; try with_reducible rfl
      try simp only [Act.put, List.setIfInBounds_toArray, List.set_cons_zero, List.set_cons_succ]
      refine take_in (i := 5) (v := ?v5t) rfl (by kernel_rfl) (by kernel_rfl) (by kernel_rfl) (fun _ _ _ h => h) (by rfl) ?hy5t (by assumption) ?_
      case hy5t => intro WW hSw; (try dsimp only at hSw); go_simp; try with_reducible rfl
      try simp only [Act.put, List.setIfInBounds_toArray, List.set_cons_zero, List.set_cons_succ]
      refine take_in (i := 6) (v := .slice (cutA Q2 c2 q) (m2 - q) (c2 - q)) rfl (by kernel_rfl) (by kernel_rfl) (by kernel_rfl) (fun _ _ _ h => h) (by rfl) ?hy6t (by assumption) ?_
      case hy6t => intro WW hSw; have hh := hsf2 WW; go_simp; try with_reducible rfl
      try simp only [Act.put, List.setIfInBounds_toArray, List.set_cons_zero, List.set_cons_succ]
      refine take_in (i := 7) (v := ?v7t) rfl (by kernel_rfl) (by kernel_rfl) (by kernel_rfl) (fun _ _ _ h => h) (by rfl) ?hy7t (by assumption) ?_
      case hy7t => intro WW hSw; (try dsimp only at hSw); go_simp; try with_reducible rfl
      try simp only [Act.put, List.setIfInBounds_toArray, List.set_cons_zero, List.set_cons_succ]
      refine one_step (i := 8) (by kernel_rfl) rfl (fun K hK => ?_)
      go_simp
      obtain ⟨W5, hW5⟩ : ∃ W5, W5 = wr.setCell ⟨w.heap.size + 1, 3, none⟩ (.string T) := ⟨_, rfl⟩
      rw [← hW5]
      have HB5 : Below w.heap.size w W5 := by rw [hW5]; exact below_set HB4 (by simp) _
      have hz5 : w.heap.size + 1 < W5.heap.size := by rw [hW5]; simpa using hz4
      have xr5 : Box W5 w.heap.size #[.int .i64 0, .bool false, .int .i64 0, .string ⟨#[]⟩, .slice none 0 0] := by rw [hW5]; exact xr4.off _ _ (by simp)
      have xv5 : Box W5 (w.heap.size + 1) #[.int .i64 3, .bool false, .int .i64 0, .string T, .slice none 0 0] := by rw [hW5]; exact xv4.put 3 _
      have hbr5 := xr5.cells
      have hbv5 := xv5.cells
      have hfr5 := xr5.free
      have hfv5 := xv5.free
      clear hW5 xr4 xv4 hbr4 hbv4 hfr4 hfv4 HB4 hz4
      have hL5 := HRQ.out W5 HB5
      refine hK.out _ _ ?_ (fun hHeld => ?_)
      · first | exact hL5 | exact hL4
      clear hK K
      try simp only [Act.put, List.setIfInBounds_toArray, List.set_cons_zero, List.set_cons_succ]
      refine take_in (i := 9) (v := ?v9t) rfl (by kernel_rfl) (by kernel_rfl) (by kernel_rfl) (fun _ _ _ h => h) (by rfl) ?hy9t (by assumption) ?_
      case hy9t => intro WW hSw; (try dsimp only at hSw); go_simp; try with_reducible rfl
      try simp only [Act.put, List.setIfInBounds_toArray, List.set_cons_zero, List.set_cons_succ]
      refine wpAnyH_done (by kernel_rfl) ?_ _
      obtain ⟨Wd, hWd⟩ : ∃ Wd, Wd = W5.drew := ⟨_, rfl⟩
      rw [← hWd]
      have HBd : Below w.heap.size w Wd := by rw [hWd]; exact HB5.drew
      have hzd : w.heap.size + 1 < Wd.heap.size := by rw [hWd]; exact hz5
      have xrd : Box Wd w.heap.size #[.int .i64 0, .bool false, .int .i64 0, .string ⟨#[]⟩, .slice none 0 0] := by rw [hWd]; exact xr5
      have xvd : Box Wd (w.heap.size + 1) #[.int .i64 3, .bool false, .int .i64 0, .string T, .slice none 0 0] := by rw [hWd]; exact xv5
      have hbrd := xrd.cells
      have hbvd := xvd.cells
      have hfrd := xrd.free
      have hfvd := xvd.free
      clear hWd xr5 xv5 hbr5 hbv5 hfr5 hfv5 HB5 hz5
      obtain ⟨m3, hm3⟩ : ∃ m3, m3 = m2 - q := ⟨_, rfl⟩
      rw [← hm3]
      have HM3 := Aside0.mk hm3
      clear hm3 hst2 hsf2 hcv hL4 hL5 HRQ hHeld
      have hRt : ∀ W, Below w.heap.size w W → Calls Tryd.prog 22 #[.agg #[.int .i64 3, .bool false, .int .i64 0, .string T, .slice none 0 0]] W fun e w' => e = .returned (.bool false) ∧ Below W.heap.size W w' := fun W hW => by
        have h := right_any 3 0 false T none [] 0 W ⟨by decide, fun h => absurd h (by decide)⟩
        rw [hright] at h
        exact h
      go_wp2_with (go_at_call 22; refine (hRt _ HBd).mono ?_)
      first
        | (intro e W6 he hb6; subst he)
        | rintro e W6 ⟨rfl, hb6⟩
      have HB6 := below_then HBd hb6
      have hz6 : w.heap.size + 1 < W6.heap.size := by have := hb6.size; omega
      have xr6 := xrd.kept hb6
      have xv6 := xvd.kept hb6
      have hbr6 := xr6.cells
      have hbv6 := xv6.cells
      have hfr6 := xr6.free
      have hfv6 := xv6.free
      clear hb6 xrd xvd hbrd hbvd hfrd hfvd HBd hzd
      go_wp2
      refine wp_label ?_
      go_wp2
      obtain ⟨W7, hW7⟩ : ∃ W7, W7 = (((((W6.setCell ⟨w.heap.size, 0, none⟩ (.int .i64 0)).setCell ⟨w.heap.size, 1, none⟩ (.bool false)).setCell ⟨w.heap.size, 2, none⟩ (.int .i64 0)).setCell ⟨w.heap.size, 3, none⟩ (.string ⟨#[]⟩)).setCell ⟨w.heap.size, 4, none⟩ (.slice none 0 0)) := ⟨_, rfl⟩
      rw [← hW7]
      have HB7 : Below w.heap.size w W7 := by rw [hW7]; exact below_set (below_set (below_set (below_set (below_set HB6 (by simp) _) (by simp) _) (by simp) _) (by simp) _) (by simp) _
      have xr7 : Box W7 w.heap.size #[.int .i64 0, .bool false, .int .i64 0, .string ⟨#[]⟩, .slice none 0 0] := by rw [hW7]; exact ((((xr6.put 0 _).put 1 _).put 2 _).put 3 _).put 4 _
      rw [Exit.noGoto_ret]
      (try subst hyy)
      (try subst hxx)
      refine bodyPost_ret (results_c3 _ rfl rfl (box_load xr7 rfl rfl rfl rfl rfl)) rfl ?_
      first
        | exact ⟨rfl, HB7⟩
        | exact ⟨rfl, HB7⟩
theorem sub_sub_nat6 (m i : Nat) (h : i ≤ m) : (m : Int) - ((m - i : Nat) : Int) = (i : Int) := by omega
theorem shl_byteI (x : Int) : IntKind.i64.wrap (sgn x * 256) = sgn (x * 256) := by
  unfold sgn
  rw [IntKind.wrap_i64, IntKind.wrap_i64, IntKind.wrap_i64]
  omega
theorem slice_to8 (W : World) (A : Option Addr) (m c : Nat) (hm : 8 ≤ m) (hc : m ≤ c) :
    (Instr.slice 30 (.slice A m c) none (some (.int .i64 8)) none).run Tryd.prog W = .ok (.slice A 8 c) W := slice_to W A m c 8 hm hc
theorem slice_from8 (W : World) (A : Option Addr) (m c : Nat) (hm : 8 ≤ m) (hc : m ≤ c) :
    (Instr.slice 30 (.slice A m c) (some (.int .i64 8)) none none).run Tryd.prog W = .ok (.slice (cutA A c 8) (m - 8) (c - 8)) W := slice_from W A m c 8 hm hc
/-- An append of one number to an own row, in a region that draws its order. -/
theorem append_i64o {w0 wr : World} {o : Oper} {a : Act} {K : Act → World → Prop} {Q : Exit → Act → World → Prop} (s x : Operand)
    (ho : o.op = .call { callee := .builtin .append, args := #[s, x], argTypes := #[23, 23] }) (B : Nat)
    (v : Value) (n : Nat) (xs : List Value) (hs : a.eval s = v) (hown : wr.ownsRow B 2 1 v n xs) (b : Int) (hx : a.eval x = .slice (some ⟨wr.heap.size, 0, none⟩) 1 1)
    (hn : n ≤ 1000000000) (hB : B ≤ wr.heap.size) (hb : Below w0.heap.size w0 wr) (hw : w0.heap.size ≤ B)
    (h : ∀ v' w', w'.ownsRow B 2 1 v' (n + 1) (xs ++ [.int .i64 b]) → Below w0.heap.size w0 w' → wr.heap.size ≤ w'.heap.size → (∀ k, k < B → w'.heap[k]? = wr.heap[k]?) → K (a.put o.dst v') w') :
    o.wp Tryd.prog a (wr.alloc (.cells #[.int .i64 b] 2)) K Q := by
  obtain ⟨i0, hi, hz0, hz1, hz2⟩ := info_parts info_i64
  have hsz := hb.size
  refine wp_append_own (wr.alloc (.cells #[.int .i64 b] 2)) s x 23 ho B 2 i0 (.int .i64 0) 1 8 Tryd.underlying23 hi hz0 hz1 hz2 rfl (by decide) v n xs hs (hown.alloc _) ⟨wr.heap.size, 0, none⟩ 1 1 [.int .i64 b] hx rfl ?c1 ?c2 ?c3 ?c4 ?c5 ?_
  case c1 =>
    intro j u hj
    match j, hj with
    | 0, hj => simp at hj; subst hj; simp [Addr.add]
  case c2 => intro u hu; simp at hu; subst hu; rfl
  case c3 => unfold maxLen; omega
  case c4 => omega
  case c5 => simp; omega
  intro v' w2 ho1 hg1 _
  refine h v' w2 ho1 ?_ ?_ (fun k hk => ?_)
  · exact below_grow (hb.alloc hb.size _) (Nat.le_refl _) hg1 (fun k e => by have := (hown.lt k e).1; omega)
  · have := hg1.size
    simp at this
    omega
  · have h1 := hg1.block k (by simp; omega) (fun e => by have := (hown.lt k e.symm).1; omega)
    rw [h1, heap_alloc_old wr _ (by omega)]
theorem append_i64d {w0 wr : World} {o : Oper} {a : Act} {K : Act → World → Prop} {Q : Exit → Act → World → Prop} (s x : Operand)
    (ho : o.op = .call { callee := .builtin .append, args := #[s, x], argTypes := #[23, 23] }) (B : Nat)
    (v : Value) (n : Nat) (xs : List Value) (hs : a.eval s = v) (hown : wr.ownsRow B 2 1 v n xs) (b : Int) (hx : a.eval x = .slice (some ⟨wr.heap.size, 0, none⟩) 1 1)
    (hn : n ≤ 1000000000) (hB : B ≤ wr.heap.size) (hb : Below w0.heap.size w0 wr) (hw : w0.heap.size ≤ B)
    (h : ∀ v' w', w'.ownsRow B 2 1 v' (n + 1) (xs ++ [.int .i64 b]) → Below w0.heap.size w0 w' → wr.heap.size ≤ w'.heap.size → (∀ k, k < B → w'.heap[k]? = wr.heap[k]?) → K (a.put o.dst v') w') :
    o.wp Tryd.prog a (wr.alloc (.cells #[.int .i64 b] 2)).drew K Q :=
  append_i64o (w0 := w0) (wr := wr.drew) s x ho B v n xs hs hown b hx hn hB hb.drew hw h
theorem beI_one (l : List Int) (h : 1 ≤ l.length) : beI (l.take 1) = l.getD 0 0 := by
  match l, h with
  | x :: _, _ => simp [beI]
set_option maxRecDepth 100000 in
set_option maxHeartbeats 3200000 in
theorem dec_6_past (A : Option Addr) (bs : List Int) (c : Nat) (i : Nat) (w : World) (hr : ReadsB w A bs) (hi : i < bs.length) (hc : bs.length ≤ c) (hbt : ∀ x ∈ bs, 0 ≤ x ∧ x < 256) (hk : bs.getD i 0 = 6) (hs : 1 ≤ bs.length - (i + 1)) (hn : ((bs.length - (i + 1) - 1 : Nat) : Int) < 8 * beI ((bs.drop (i + 1)).take 1)) :
    Calls Tryd.prog 36 #[.slice A bs.length c, .int .i64 (i : Int)] w fun e w' => e = .returned (.tuple #[.agg #[.int .i64 0, .bool false, .int .i64 0, .string ⟨#[]⟩, .slice none 0 0], .int .i64 0, .int .i64 21]) ∧ Below w.heap.size w w' := by
  obtain ⟨ad, rfl, hcell⟩ := hr.2 (by omega)
  have hci : ∀ W, Below w.heap.size w W → W.cell? (ad.add i) = some (.int .u8 6) := fun W hW => by
    obtain ⟨ad', e, h⟩ := (hr.below hW).2 (by omega)
    cases e
    rw [h i hi, hk]
  have hmx := hr.1
  have hrd := hr.drop c (i + 1) hc
  obtain ⟨m, hm⟩ : ∃ m, m = bs.length := ⟨_, rfl⟩
  have hlr : (bs.drop (i + 1)).length = m - (i + 1) := by rw [List.length_drop, hm]
  (try rw [← hm] at hs)
  (try rw [← hm] at hn)
  rw [← hm] at hi hc hmx ⊢
  have hsl : ∀ W, (Instr.slice 30 (.slice (some ad) m c) (some (.int .i64 ((i : Int) + 1))) none none).run Tryd.prog W = .ok (.slice (cutA (some ad) c (i + 1)) (m - (i + 1)) (c - (i + 1))) W := fun W => slice_from W (some ad) m c (i + 1) (by omega) (by omega)
  generalize cutA (some ad) c (i + 1) = Q at hsl hrd
  have hrs : ∀ x ∈ bs.drop (i + 1), 0 ≤ x ∧ x < 256 := fun x hx => hbt x (List.mem_of_mem_drop hx)
  generalize hRS0 : bs.drop (i + 1) = rs at hlr hrd hrs hn
  have HRS0 := Aside0.mk hRS0
  clear hRS0
  have hii : (i : Int) < (m : Int) := by omega
  have hi0 : (0 : Int) ≤ (i : Int) := by omega
  have HM := Aside0.mk hm
  have HR := Aside0.mk hr
  have HRD := Aside0.mk hrd
  have HLR := Aside0.mk hlr
  have HCI := Aside0.mk hci
  clear hm hr hk hcell hrd hlr hci hbt
  go_enter Tryd.func36, Tryd.ntmps36
  go_wp2
  refine wp_scope_jumps 0 (fun a' w' => a' = { tmps := #[(a'.tmps.getD 0 undef), (a'.tmps.getD 1 undef), (a'.tmps.getD 2 undef), (a'.tmps.getD 3 undef), .pointer (some ⟨w.heap.size, 0, none⟩), (a'.tmps.getD 5 undef), (a'.tmps.getD 6 undef), (a'.tmps.getD 7 undef), (a'.tmps.getD 8 undef), (a'.tmps.getD 9 undef), (a'.tmps.getD 10 undef), (a'.tmps.getD 11 undef), (a'.tmps.getD 12 undef), (a'.tmps.getD 13 undef), (a'.tmps.getD 14 undef), (a'.tmps.getD 15 undef), (a'.tmps.getD 16 undef), (a'.tmps.getD 17 undef), (a'.tmps.getD 18 undef), (a'.tmps.getD 19 undef), (a'.tmps.getD 20 undef), (a'.tmps.getD 21 undef), (a'.tmps.getD 22 undef), (a'.tmps.getD 23 undef), (a'.tmps.getD 24 undef), (a'.tmps.getD 25 undef), (a'.tmps.getD 26 undef), (a'.tmps.getD 27 undef), (a'.tmps.getD 28 undef), (a'.tmps.getD 29 undef), (a'.tmps.getD 30 undef), (a'.tmps.getD 31 undef), (a'.tmps.getD 32 undef), (a'.tmps.getD 33 undef), (a'.tmps.getD 34 undef), (a'.tmps.getD 35 undef), (a'.tmps.getD 36 undef), (a'.tmps.getD 37 undef), (a'.tmps.getD 38 undef), (a'.tmps.getD 39 undef), (a'.tmps.getD 40 undef), (a'.tmps.getD 41 undef), (a'.tmps.getD 42 undef), (a'.tmps.getD 43 undef), (a'.tmps.getD 44 undef), (a'.tmps.getD 45 undef), (a'.tmps.getD 46 undef), (a'.tmps.getD 47 undef), (a'.tmps.getD 48 undef), (a'.tmps.getD 49 undef), (a'.tmps.getD 50 undef), (a'.tmps.getD 51 undef), (a'.tmps.getD 52 undef), (a'.tmps.getD 53 undef), (a'.tmps.getD 54 undef), (a'.tmps.getD 55 undef), (a'.tmps.getD 56 undef), (a'.tmps.getD 57 undef), (a'.tmps.getD 58 undef), (a'.tmps.getD 59 undef), (a'.tmps.getD 60 undef), (a'.tmps.getD 61 undef), (a'.tmps.getD 62 undef), (a'.tmps.getD 63 undef), (a'.tmps.getD 64 undef), (a'.tmps.getD 65 undef), (a'.tmps.getD 66 undef), (a'.tmps.getD 67 undef), (a'.tmps.getD 68 undef), (a'.tmps.getD 69 undef), (a'.tmps.getD 70 undef), (a'.tmps.getD 71 undef), (a'.tmps.getD 72 undef), (a'.tmps.getD 73 undef), (a'.tmps.getD 74 undef), (a'.tmps.getD 75 undef), (a'.tmps.getD 76 undef), (a'.tmps.getD 77 undef), (a'.tmps.getD 78 undef), (a'.tmps.getD 79 undef), (a'.tmps.getD 80 undef), (a'.tmps.getD 81 undef), (a'.tmps.getD 82 undef), (a'.tmps.getD 83 undef), (a'.tmps.getD 84 undef), (a'.tmps.getD 85 undef), (a'.tmps.getD 86 undef), (a'.tmps.getD 87 undef), (a'.tmps.getD 88 undef), (a'.tmps.getD 89 undef), (a'.tmps.getD 90 undef), (a'.tmps.getD 91 undef), (a'.tmps.getD 92 undef), (a'.tmps.getD 93 undef), (a'.tmps.getD 94 undef), (a'.tmps.getD 95 undef), (a'.tmps.getD 96 undef), (a'.tmps.getD 97 undef), (a'.tmps.getD 98 undef), (a'.tmps.getD 99 undef), (a'.tmps.getD 100 undef), (a'.tmps.getD 101 undef), (a'.tmps.getD 102 undef), (a'.tmps.getD 103 undef), (a'.tmps.getD 104 undef), (a'.tmps.getD 105 undef), (a'.tmps.getD 106 undef), (a'.tmps.getD 107 undef), (a'.tmps.getD 108 undef), (a'.tmps.getD 109 undef), (a'.tmps.getD 110 undef), (a'.tmps.getD 111 undef), (a'.tmps.getD 112 undef), (a'.tmps.getD 113 undef), (a'.tmps.getD 114 undef), (a'.tmps.getD 115 undef), (a'.tmps.getD 116 undef), (a'.tmps.getD 117 undef), (a'.tmps.getD 118 undef), (a'.tmps.getD 119 undef), (a'.tmps.getD 120 undef), (a'.tmps.getD 121 undef), (a'.tmps.getD 122 undef), (a'.tmps.getD 123 undef), (a'.tmps.getD 124 undef), (a'.tmps.getD 125 undef), (a'.tmps.getD 126 undef), (a'.tmps.getD 127 undef), (a'.tmps.getD 128 undef), (a'.tmps.getD 129 undef), (a'.tmps.getD 130 undef), (a'.tmps.getD 131 undef), (a'.tmps.getD 132 undef), (a'.tmps.getD 133 undef), (a'.tmps.getD 134 undef), (a'.tmps.getD 135 undef), (a'.tmps.getD 136 undef), (a'.tmps.getD 137 undef), (a'.tmps.getD 138 undef)], defers := [] } ∧ Box w' w.heap.size #[.int .i64 0, .bool false, .int .i64 0, .string ⟨#[]⟩, .slice none 0 0] ∧ Below w.heap.size w w') (fun _ _ => 0) rfl ?first ?pass
  case pass =>
    rintro a' w' ⟨ha, xr, HB⟩
    obtain ⟨U, hU⟩ : ∃ U : Nat → Value, U = fun i => a'.tmps.getD i undef := ⟨_, rfl⟩
    have ha2 : a' = { tmps := #[U 0, U 1, U 2, U 3, .pointer (some ⟨w.heap.size, 0, none⟩), U 5, U 6, U 7, U 8, U 9, U 10, U 11, U 12, U 13, U 14, U 15, U 16, U 17, U 18, U 19, U 20, U 21, U 22, U 23, U 24, U 25, U 26, U 27, U 28, U 29, U 30, U 31, U 32, U 33, U 34, U 35, U 36, U 37, U 38, U 39, U 40, U 41, U 42, U 43, U 44, U 45, U 46, U 47, U 48, U 49, U 50, U 51, U 52, U 53, U 54, U 55, U 56, U 57, U 58, U 59, U 60, U 61, U 62, U 63, U 64, U 65, U 66, U 67, U 68, U 69, U 70, U 71, U 72, U 73, U 74, U 75, U 76, U 77, U 78, U 79, U 80, U 81, U 82, U 83, U 84, U 85, U 86, U 87, U 88, U 89, U 90, U 91, U 92, U 93, U 94, U 95, U 96, U 97, U 98, U 99, U 100, U 101, U 102, U 103, U 104, U 105, U 106, U 107, U 108, U 109, U 110, U 111, U 112, U 113, U 114, U 115, U 116, U 117, U 118, U 119, U 120, U 121, U 122, U 123, U 124, U 125, U 126, U 127, U 128, U 129, U 130, U 131, U 132, U 133, U 134, U 135, U 136, U 137, U 138], defers := [] } := by rw [hU]; exact ha
    clear hU ha
    subst ha2
    have hbr := xr.cells
    have hfr := xr.free
    go_wp2
    obtain ⟨W7, hW7⟩ : ∃ W7, W7 = (((((w'.setCell ⟨w.heap.size, 0, none⟩ (.int .i64 0)).setCell ⟨w.heap.size, 1, none⟩ (.bool false)).setCell ⟨w.heap.size, 2, none⟩ (.int .i64 0)).setCell ⟨w.heap.size, 3, none⟩ (.string ⟨#[]⟩)).setCell ⟨w.heap.size, 4, none⟩ (.slice none 0 0)) := ⟨_, rfl⟩
    rw [← hW7]
    have HB7 : Below w.heap.size w W7 := by rw [hW7]; exact below_set (below_set (below_set (below_set (below_set HB (by simp) _) (by simp) _) (by simp) _) (by simp) _) (by simp) _
    have xr7 : Box W7 w.heap.size #[.int .i64 0, .bool false, .int .i64 0, .string ⟨#[]⟩, .slice none 0 0] := by rw [hW7]; exact ((((xr.put 0 _).put 1 _).put 2 _).put 3 _).put 4 _
    first
      | refine bodyPost_ret (results_c3 _ rfl rfl (box_load xr7 rfl rfl rfl rfl rfl)) rfl ?_
      | (simp only [Exit.jump]; refine bodyPost_ret (results_c3 _ rfl rfl (box_load xr7 rfl rfl rfl rfl rfl)) rfl ?_)
    exact ⟨rfl, HB7⟩
  case first =>
  go_upto_region 6 with (fail)
  obtain ⟨W2, hW2⟩ : ∃ W2, W2 = (w.alloc (.cells #[.int .i64 0, .bool false, .int .i64 0, .string ⟨#[]⟩, .slice none 0 0] 25)).alloc (.cells #[.int .i64 0, .bool false, .int .i64 0, .string ⟨#[]⟩, .slice none 0 0] 25) := ⟨_, rfl⟩
  rw [← hW2]
  have HB2 : Below w.heap.size w W2 := by rw [hW2]; exact below_more (below_more (Below.refl _ _) _) _
  have hz2 : w.heap.size + 1 < W2.heap.size := by rw [hW2]; simp
  have xr2 : Box W2 w.heap.size #[.int .i64 0, .bool false, .int .i64 0, .string ⟨#[]⟩, .slice none 0 0] := by rw [hW2]; exact (Box.new w _).more _
  have xv2 : Box W2 (w.heap.size + 1) #[.int .i64 0, .bool false, .int .i64 0, .string ⟨#[]⟩, .slice none 0 0] := by rw [hW2]; have h := Box.new (w.alloc (.cells #[.int .i64 0, .bool false, .int .i64 0, .string ⟨#[]⟩, .slice none 0 0] 25)) #[.int .i64 0, .bool false, .int .i64 0, .string ⟨#[]⟩, .slice none 0 0]; simpa using h
  have hbr2 := xr2.cells
  have hbv2 := xv2.cells
  have hfr2 := xr2.free
  have hfv2 := xv2.free
  have hcx := HCI.out W2 HB2
  clear hW2
  go_upto_region 8 with (fail)
  obtain ⟨W3, hW3⟩ : ∃ W3, W3 = W2.setCell ⟨w.heap.size + 1, 0, none⟩ (.int .i64 6) := ⟨_, rfl⟩
  rw [← hW3]
  have HB3 : Below w.heap.size w W3 := by rw [hW3]; exact below_set HB2 (by simp) _
  have hz3 : w.heap.size + 1 < W3.heap.size := by rw [hW3]; simpa using hz2
  have xr3 : Box W3 w.heap.size #[.int .i64 0, .bool false, .int .i64 0, .string ⟨#[]⟩, .slice none 0 0] := by rw [hW3]; exact xr2.off _ _ (by simp)
  have xv3 : Box W3 (w.heap.size + 1) #[.int .i64 6, .bool false, .int .i64 0, .string ⟨#[]⟩, .slice none 0 0] := by rw [hW3]; exact xv2.put 0 _
  have hbr3 := xr3.cells
  have hbv3 := xv3.cells
  have hfr3 := xr3.free
  have hfv3 := xv3.free
  clear hW3 xr2 xv2 hbr2 hbv2 hfr2 hfv2 HB2 hz2
  obtain ⟨m1, hm1⟩ : ∃ m1, m1 = m - (i + 1) := ⟨_, rfl⟩
  obtain ⟨c1, hc1⟩ : ∃ c1, c1 = c - (i + 1) := ⟨_, rfl⟩
  rw [← hm1, ← hc1]
  have hmc1 : m1 ≤ c1 := by omega
  have HLR2 : rs.length = m1 := by rw [HLR.out, hm1]
  (try rw [← hm1] at hs)
  (try rw [← hm1] at hn)
  have hnx : (m : Int) - (m1 : Int) = (i : Int) + 1 := by omega
  have HNX := Aside0.mk hnx
  clear hnx hm1 hc1 hsl hcx
  have hst : ∀ W, (Instr.slice 30 (.slice Q m1 c1) none (some (.int .i64 1)) none).run Tryd.prog W = .ok (.slice Q 1 c1) W := fun W => slice_to W Q m1 c1 1 (by omega) (by omega)
  have hsf : ∀ W, (Instr.slice 30 (.slice Q m1 c1) (some (.int .i64 1)) none none).run Tryd.prog W = .ok (.slice (cutA Q c1 1) (m1 - 1) (c1 - 1)) W := fun W => slice_from W Q m1 c1 1 (by omega) (by omega)
  have HR2 := (HRD.out.drop c1 1 (by omega))
  generalize cutA Q c1 1 = Q2 at hsf HR2
  have hmin : min (6 : Int) 7 = 6 := by decide
  go_upto_region 11 with (fail)
  obtain ⟨W4, hW4⟩ : ∃ W4, W4 = W3.alloc (.cells #[.int .i64 0, .int .i64 1, .int .i64 8, .int .i64 4, .int .i64 8, .int .i64 8, .int .i64 1, .int .i64 0] 3) := ⟨_, rfl⟩
  rw [← hW4]
  have HB4 : Below w.heap.size w W4 := by rw [hW4]; exact below_more HB3 _
  have hz4 : w.heap.size + 1 < W4.heap.size := by rw [hW4]; simp; omega
  have xr4 : Box W4 w.heap.size #[.int .i64 0, .bool false, .int .i64 0, .string ⟨#[]⟩, .slice none 0 0] := by rw [hW4]; exact xr3.more _
  have xv4 : Box W4 (w.heap.size + 1) #[.int .i64 6, .bool false, .int .i64 0, .string ⟨#[]⟩, .slice none 0 0] := by rw [hW4]; exact xv3.more _
  have hbr4 := xr4.cells
  have hbv4 := xv4.cells
  have hfr4 := xr4.free
  have hfv4 := xv4.free
  clear hW4 xr3 xv3 hbr3 hbv3 hfr3 hfv3 HB3 hz3 hmin hst
  obtain ⟨ae, rfl⟩ : ∃ ae, Q = some ae := (HRD.out.2 (by omega)).imp fun _ h => h.1
  have HRS := Aside0.mk hrs
  clear hrs
  go_loopg [9, 53] 2 (fun gg s9 s53 wr => ∃ j : Nat, j ≤ 1 ∧ 1 < gg + j ∧ s53 = .int .i64 j ∧ s9 = .int .u64 (beI (rs.take j)) ∧ wr = W4)
  case atStart => exact ⟨0, by omega, by omega, rfl, rfl, rfl⟩
  case round =>
    obtain ⟨j, hj, hg, rfl, rfl, rfl⟩ := hrel
    by_cases hlt : j < 1
    · have hlti : (j : Int) < 1 := by omega
      have hj0 : (0 : Int) ≤ (j : Int) := by omega
      have hcell : wr.cell? (ae.add j) = some (.int .u8 (rs.getD j 0)) := by
        obtain ⟨ae', e, h⟩ := (HRD.out.below HB4).2 (by omega)
        cases e
        exact h j (by omega)
      have hcb := HRS.out (rs.getD j 0) (by rw [List.getD_eq_getElem?_getD, List.getElem?_eq_getElem (by omega)]; exact List.getElem_mem _)
      have hbe := beI_take rs j (by omega)
      have hxb := beI_bound j (rs.take j) (by rw [List.length_take]; omega) (fun x hx => HRS.out x (List.mem_of_mem_take hx))
      have hx7 : (256 : Int) ^ j ≤ 72057594037927936 := by
        have : j = 0 ∨ j = 1 ∨ j = 2 ∨ j = 3 ∨ j = 4 ∨ j = 5 ∨ j = 6 ∨ j = 7 := by omega
        rcases this with rfl | rfl | rfl | rfl | rfl | rfl | rfl | rfl <;> decide
      generalize rs.getD j 0 = y at hcell hcb hbe
      generalize beI (rs.take j) = x at hbe hxb
      have hor := or_byte64 x y hxb.1 (by omega) hcb.1 hcb.2
      have HBE := Aside0.mk hbe
      clear hbe
      go_wp2
      go_roundg (gk - 1)
      case measure => omega
      case rel => exact ⟨j + 1, by omega, by omega, by go_num, by rw [HBE.out], rfl⟩
    · obtain rfl : j = 1 := by omega
      clear hlt hj hg
      have hxb := beI_bound 1 (rs.take 1) (by rw [List.length_take]; omega) (fun x hx => HRS.out x (List.mem_of_mem_take hx))
      generalize hxx : beI (rs.take 1) = x at hxb hn
      obtain ⟨q, rfl⟩ : ∃ q : Nat, x = (q : Int) := ⟨x.toNat, by omega⟩
      have HXX := Aside0.mk hxx
      obtain ⟨m2, hm2⟩ : ∃ m2, m2 = m1 - 1 := ⟨_, rfl⟩
      obtain ⟨c2, hc2⟩ : ∃ c2, c2 = c1 - 1 := ⟨_, rfl⟩
      rw [← hm2, ← hc2] at hsf
      rw [← hm2] at hn
      have hmc2 : m2 ≤ c2 := by omega
      have hq6 : (q : Int) < 256 := hxb.2
      have hq0 : (0 : Int) ≤ (q : Int) := hxb.1
      have hm9 : m1 ≤ m := by have := HNX.out; omega
      have hu : IntKind.u64.wrap (m2 : Int) = (m2 : Int) := by
        simp [IntKind.wrap, IntKind.signed, IntKind.bits]
        omega
      have hng : ¬ 8 * (q : Int) ≤ (m2 : Int) := by omega
      have hnn : m2 < 8 * q := by omega
      clear hm2 hc2 hxb hxx
      go_upto_region 29 with (fail)
      refine wp_goto ?_
      exact ⟨rfl, rfl, xr4, HB4⟩

set_option maxRecDepth 100000 in
set_option maxHeartbeats 3200000 in
theorem dec_6 (A : Option Addr) (bs : List Int) (c : Nat) (i : Nat) (w : World) (hr : ReadsB w A bs) (hi : i < bs.length) (hc : bs.length ≤ c) (hbt : ∀ x ∈ bs, 0 ≤ x ∧ x < 256) (hk : bs.getD i 0 = 6) (hs : 1 ≤ bs.length - (i + 1)) (hn : 8 * beI ((bs.drop (i + 1)).take 1) ≤ ((bs.length - (i + 1) - 1 : Nat) : Int)) :
    Calls Tryd.prog 36 #[.slice A bs.length c, .int .i64 (i : Int)] w fun e w' => AnsD (decO bs i) w e w' := by
  have HANS := Aside0.mk (decO_6 hk)
  have HG1 : Aside0 (bs.getD (i + 1) 0 = beI ((bs.drop (i + 1)).take 1)) := ⟨by rw [beI_one _ (by rw [List.length_drop]; exact hs)]; simp [List.getD]⟩
  generalize decO bs i = D at HANS ⊢
  obtain ⟨ad, rfl, hcell⟩ := hr.2 (by omega)
  have hci : ∀ W, Below w.heap.size w W → W.cell? (ad.add i) = some (.int .u8 6) := fun W hW => by
    obtain ⟨ad', e, h⟩ := (hr.below hW).2 (by omega)
    cases e
    rw [h i hi, hk]
  have hmx := hr.1
  have hrd := hr.drop c (i + 1) hc
  obtain ⟨m, hm⟩ : ∃ m, m = bs.length := ⟨_, rfl⟩
  have hlr : (bs.drop (i + 1)).length = m - (i + 1) := by rw [List.length_drop, hm]
  (try rw [← hm] at hs)
  (try rw [← hm] at hn)
  rw [← hm] at hi hc hmx ⊢
  have hsl : ∀ W, (Instr.slice 30 (.slice (some ad) m c) (some (.int .i64 ((i : Int) + 1))) none none).run Tryd.prog W = .ok (.slice (cutA (some ad) c (i + 1)) (m - (i + 1)) (c - (i + 1))) W := fun W => slice_from W (some ad) m c (i + 1) (by omega) (by omega)
  generalize cutA (some ad) c (i + 1) = Q at hsl hrd
  have hrs : ∀ x ∈ bs.drop (i + 1), 0 ≤ x ∧ x < 256 := fun x hx => hbt x (List.mem_of_mem_drop hx)
  generalize hRS0 : bs.drop (i + 1) = rs at hlr hrd hrs hn
  have HRS0 := Aside0.mk hRS0
  clear hRS0
  have hii : (i : Int) < (m : Int) := by omega
  have hi0 : (0 : Int) ≤ (i : Int) := by omega
  have HM := Aside0.mk hm
  have HR := Aside0.mk hr
  have HRD := Aside0.mk hrd
  have HLR := Aside0.mk hlr
  have HCI := Aside0.mk hci
  clear hm hr hk hcell hrd hlr hci hbt
  go_enter Tryd.func36, Tryd.ntmps36
  go_wp2
  go_step3
  go_upto_region 6 with (fail)
  obtain ⟨W2, hW2⟩ : ∃ W2, W2 = (w.alloc (.cells #[.int .i64 0, .bool false, .int .i64 0, .string ⟨#[]⟩, .slice none 0 0] 25)).alloc (.cells #[.int .i64 0, .bool false, .int .i64 0, .string ⟨#[]⟩, .slice none 0 0] 25) := ⟨_, rfl⟩
  rw [← hW2]
  have HB2 : Below w.heap.size w W2 := by rw [hW2]; exact below_more (below_more (Below.refl _ _) _) _
  have hz2 : w.heap.size + 1 < W2.heap.size := by rw [hW2]; simp
  have xr2 : Box W2 w.heap.size #[.int .i64 0, .bool false, .int .i64 0, .string ⟨#[]⟩, .slice none 0 0] := by rw [hW2]; exact (Box.new w _).more _
  have xv2 : Box W2 (w.heap.size + 1) #[.int .i64 0, .bool false, .int .i64 0, .string ⟨#[]⟩, .slice none 0 0] := by rw [hW2]; have h := Box.new (w.alloc (.cells #[.int .i64 0, .bool false, .int .i64 0, .string ⟨#[]⟩, .slice none 0 0] 25)) #[.int .i64 0, .bool false, .int .i64 0, .string ⟨#[]⟩, .slice none 0 0]; simpa using h
  have hbr2 := xr2.cells
  have hbv2 := xv2.cells
  have hfr2 := xr2.free
  have hfv2 := xv2.free
  have hcx := HCI.out W2 HB2
  clear hW2
  go_upto_region 8 with (fail)
  obtain ⟨W3, hW3⟩ : ∃ W3, W3 = W2.setCell ⟨w.heap.size + 1, 0, none⟩ (.int .i64 6) := ⟨_, rfl⟩
  rw [← hW3]
  have HB3 : Below w.heap.size w W3 := by rw [hW3]; exact below_set HB2 (by simp) _
  have hz3 : w.heap.size + 1 < W3.heap.size := by rw [hW3]; simpa using hz2
  have xr3 : Box W3 w.heap.size #[.int .i64 0, .bool false, .int .i64 0, .string ⟨#[]⟩, .slice none 0 0] := by rw [hW3]; exact xr2.off _ _ (by simp)
  have xv3 : Box W3 (w.heap.size + 1) #[.int .i64 6, .bool false, .int .i64 0, .string ⟨#[]⟩, .slice none 0 0] := by rw [hW3]; exact xv2.put 0 _
  have hbr3 := xr3.cells
  have hbv3 := xv3.cells
  have hfr3 := xr3.free
  have hfv3 := xv3.free
  clear hW3 xr2 xv2 hbr2 hbv2 hfr2 hfv2 HB2 hz2
  obtain ⟨m1, hm1⟩ : ∃ m1, m1 = m - (i + 1) := ⟨_, rfl⟩
  obtain ⟨c1, hc1⟩ : ∃ c1, c1 = c - (i + 1) := ⟨_, rfl⟩
  rw [← hm1, ← hc1]
  have hmc1 : m1 ≤ c1 := by omega
  have HLR2 : rs.length = m1 := by rw [HLR.out, hm1]
  (try rw [← hm1] at hs)
  (try rw [← hm1] at hn)
  have hnx : (m : Int) - (m1 : Int) = (i : Int) + 1 := by omega
  have HNX := Aside0.mk hnx
  clear hnx hm1 hc1 hsl hcx
  have hst : ∀ W, (Instr.slice 30 (.slice Q m1 c1) none (some (.int .i64 1)) none).run Tryd.prog W = .ok (.slice Q 1 c1) W := fun W => slice_to W Q m1 c1 1 (by omega) (by omega)
  have hsf : ∀ W, (Instr.slice 30 (.slice Q m1 c1) (some (.int .i64 1)) none none).run Tryd.prog W = .ok (.slice (cutA Q c1 1) (m1 - 1) (c1 - 1)) W := fun W => slice_from W Q m1 c1 1 (by omega) (by omega)
  have HR2 := (HRD.out.drop c1 1 (by omega))
  generalize cutA Q c1 1 = Q2 at hsf HR2
  have hmin : min (6 : Int) 7 = 6 := by decide
  go_upto_region 11 with (fail)
  obtain ⟨W4, hW4⟩ : ∃ W4, W4 = W3.alloc (.cells #[.int .i64 0, .int .i64 1, .int .i64 8, .int .i64 4, .int .i64 8, .int .i64 8, .int .i64 1, .int .i64 0] 3) := ⟨_, rfl⟩
  rw [← hW4]
  have HB4 : Below w.heap.size w W4 := by rw [hW4]; exact below_more HB3 _
  have hz4 : w.heap.size + 1 < W4.heap.size := by rw [hW4]; simp; omega
  have xr4 : Box W4 w.heap.size #[.int .i64 0, .bool false, .int .i64 0, .string ⟨#[]⟩, .slice none 0 0] := by rw [hW4]; exact xr3.more _
  have xv4 : Box W4 (w.heap.size + 1) #[.int .i64 6, .bool false, .int .i64 0, .string ⟨#[]⟩, .slice none 0 0] := by rw [hW4]; exact xv3.more _
  have hbr4 := xr4.cells
  have hbv4 := xv4.cells
  have hfr4 := xr4.free
  have hfv4 := xv4.free
  clear hW4 xr3 xv3 hbr3 hbv3 hfr3 hfv3 HB3 hz3 hmin hst
  obtain ⟨ae, rfl⟩ : ∃ ae, Q = some ae := (HRD.out.2 (by omega)).imp fun _ h => h.1
  have HRS := Aside0.mk hrs
  clear hrs
  go_loopg [9, 53] 2 (fun gg s9 s53 wr => ∃ j : Nat, j ≤ 1 ∧ 1 < gg + j ∧ s53 = .int .i64 j ∧ s9 = .int .u64 (beI (rs.take j)) ∧ wr = W4)
  case atStart => exact ⟨0, by omega, by omega, rfl, rfl, rfl⟩
  case round =>
    obtain ⟨j, hj, hg, rfl, rfl, rfl⟩ := hrel
    by_cases hlt : j < 1
    · have hlti : (j : Int) < 1 := by omega
      have hj0 : (0 : Int) ≤ (j : Int) := by omega
      have hcell : wr.cell? (ae.add j) = some (.int .u8 (rs.getD j 0)) := by
        obtain ⟨ae', e, h⟩ := (HRD.out.below HB4).2 (by omega)
        cases e
        exact h j (by omega)
      have hcb := HRS.out (rs.getD j 0) (by rw [List.getD_eq_getElem?_getD, List.getElem?_eq_getElem (by omega)]; exact List.getElem_mem _)
      have hbe := beI_take rs j (by omega)
      have hxb := beI_bound j (rs.take j) (by rw [List.length_take]; omega) (fun x hx => HRS.out x (List.mem_of_mem_take hx))
      have hx7 : (256 : Int) ^ j ≤ 72057594037927936 := by
        have : j = 0 ∨ j = 1 ∨ j = 2 ∨ j = 3 ∨ j = 4 ∨ j = 5 ∨ j = 6 ∨ j = 7 := by omega
        rcases this with rfl | rfl | rfl | rfl | rfl | rfl | rfl | rfl <;> decide
      generalize rs.getD j 0 = y at hcell hcb hbe
      generalize beI (rs.take j) = x at hbe hxb
      have hor := or_byte64 x y hxb.1 (by omega) hcb.1 hcb.2
      have HBE := Aside0.mk hbe
      clear hbe
      go_wp2
      go_roundg (gk - 1)
      case measure => omega
      case rel => exact ⟨j + 1, by omega, by omega, by go_num, by rw [HBE.out], rfl⟩
    · obtain rfl : j = 1 := by omega
      clear hlt hj hg
      have hxb := beI_bound 1 (rs.take 1) (by rw [List.length_take]; omega) (fun x hx => HRS.out x (List.mem_of_mem_take hx))
      generalize hxx : beI (rs.take 1) = x at hxb hn
      obtain ⟨q, rfl⟩ : ∃ q : Nat, x = (q : Int) := ⟨x.toNat, by omega⟩
      have HXX := Aside0.mk hxx
      obtain ⟨m2, hm2⟩ : ∃ m2, m2 = m1 - 1 := ⟨_, rfl⟩
      obtain ⟨c2, hc2⟩ : ∃ c2, c2 = c1 - 1 := ⟨_, rfl⟩
      rw [← hm2, ← hc2] at hsf
      rw [← hm2] at hn
      have hmc2 : m2 ≤ c2 := by omega
      have hq6 : (q : Int) < 256 := hxb.2
      have hq0 : (0 : Int) ≤ (q : Int) := hxb.1
      have hm9 : m1 ≤ m := by have := HNX.out; omega
      have hu : IntKind.u64.wrap (m2 : Int) = (m2 : Int) := by
        simp [IntKind.wrap, IntKind.signed, IntKind.bits]
        omega
      have hng : ¬ (m2 : Int) < 8 * (q : Int) := by omega
      have hnn : ¬ m2 < 8 * q := by omega
      have hfit : 8 * q ≤ m2 := by omega
      have HR1 : Aside0 (ReadsB w Q2 (rs.drop 1)) := ⟨HR2⟩
      have HL1 : Aside0 ((rs.drop 1).length = m2 ∧ m2 + 1 = m1) := ⟨by rw [List.length_drop]; omega, by omega⟩
      have HRS1 : Aside0 (∀ x ∈ rs.drop 1, 0 ≤ x ∧ x < 256) := ⟨fun x hx => HRS.out x (List.mem_of_mem_drop hx)⟩
      have HNP : Aside0 (∀ j, (rs.drop 1).drop (8 * j) = bs.drop (i + 2 + 8 * j)) := ⟨fun j => by rw [← HRS0.out, List.drop_drop, List.drop_drop]; congr 1; omega⟩
      generalize rs.drop 1 = r1 at HR1 HL1 HRS1 HNP
      clear hm2 hc2 hxb hxx HR2 HRS hn
      go_upto_region 29 with (fail)
      have hP0 : wr.ownsRow (w.heap.size + 1 + 1) 2 1 (.slice none 0 0) 0 [] := ⟨rfl, .inl ⟨rfl, rfl⟩⟩
      have hz42 : w.heap.size + 1 + 1 ≤ wr.heap.size := hz4
      go_loopg [8, 9] 257 (fun gg s8 s9 wr => ∃ (j r : Nat) (Qj : Option Addr) (mj cj : Nat) (V : Value) (P : List Int), s9 = .int .u64 (r : Int) ∧ s8 = .slice Qj mj cj ∧ r + j = q ∧ mj + 8 * j = m2 ∧ mj ≤ cj ∧ 256 < gg + j ∧ ReadsB w Qj (r1.drop (8 * j)) ∧ P = numsP bs (i + 2) j ∧ P.length = j ∧ wr.ownsRow (w.heap.size + 1 + 1) 2 1 V j (numCells P) ∧ Box wr w.heap.size #[.int .i64 0, .bool false, .int .i64 0, .string ⟨#[]⟩, .slice none 0 0] ∧ Box wr (w.heap.size + 1) #[.int .i64 6, .bool false, .int .i64 0, .string ⟨#[]⟩, V] ∧ Below w.heap.size w wr ∧ w.heap.size + 1 + 1 ≤ wr.heap.size)
      case atStart => exact ⟨0, q, Q2, m2, c2, .slice none 0 0, [], rfl, rfl, by omega, by omega, hmc2, by omega, HR1.out, rfl, rfl, hP0, xr4, xv4, HB4, hz42⟩
      case round =>
        obtain ⟨j, r, Qj, mj, cj, V, P, rfl, rfl, hrj, hmj, hmc, hg, hrd, hPe, hPl, hown, xr, xv, HB, hBs⟩ := hrel
        clear xr4 xv4 hbr4 hbv4 hfr4 hfv4 HB4 hP0 hz4 hz42 hsf hu
        have hbr := xr.cells
        have hbv := xv.cells
        have hfr := xr.free
        have hfv := xv.free
        have HPE := Aside0.mk hPe
        have HPL := Aside0.mk hPl
        have HO := Aside0.mk hown
        have HG := Aside0.mk hg
        have HBS := Aside0.mk hBs
        have HRJ := Aside0.mk hrj
        have HMJ := Aside0.mk hmj
        have HRD1 := Aside0.mk hrd
        have hr0 : (0 : Int) ≤ (r : Int) := by omega
        have hr9 : (r : Int) ≤ 255 := by omega
        by_cases hgo : 0 < r
        · have hri : (0 : Int) < (r : Int) := by omega
          have hm8 : 8 ≤ mj := by omega
          have hm8i : (8 : Int) ≤ (mj : Int) := by omega
          have hmj9 : (mj : Int) ≤ 9223372036854775807 := by have := HL1.out.2; omega
          have hst8 : ∀ W, (Instr.slice 30 (.slice Qj mj cj) none (some (.int .i64 8)) none).run Tryd.prog W = .ok (.slice Qj 8 cj) W := fun W => slice_to8 W Qj mj cj hm8 hmc
          have hsf8 : ∀ W, (Instr.slice 30 (.slice Qj mj cj) (some (.int .i64 8)) none none).run Tryd.prog W = .ok (.slice (cutA Qj cj 8) (mj - 8) (cj - 8)) W := fun W => slice_from8 W Qj mj cj hm8 hmc
          have HRD2 : Aside0 (ReadsB w (cutA Qj cj 8) (r1.drop (8 * (j + 1)))) := ⟨by
            have h := hrd.drop cj 8 (by rw [List.length_drop]; have := HL1.out.1; omega)
            rw [List.drop_drop] at h
            exact h⟩
          have HL8 : Aside0 ((r1.drop (8 * j)).length = mj) := ⟨by rw [List.length_drop]; have := HL1.out.1; omega⟩
          have HRSJ : Aside0 (∀ x ∈ r1.drop (8 * j), 0 ≤ x ∧ x < 256) := ⟨fun x hx => HRS1.out x (List.mem_of_mem_drop hx)⟩
          have HYN : Aside0 (sgn (beI ((r1.drop (8 * j)).take 8)) = sgn (beI ((bs.drop (i + 2 + 8 * j)).take 8))) := ⟨by rw [HNP.out]⟩
          obtain ⟨ae, rfl⟩ : ∃ ae, Qj = some ae := (hrd.2 (by have := HL8.out; omega)).imp fun _ h => h.1
          have hcells : ∀ t, t < 8 → wr.cell? (ae.add t) = some (.int .u8 ((r1.drop (8 * j)).getD t 0)) := fun t ht => by
            obtain ⟨ae', e, h⟩ := (hrd.below HB).2 (by have := HL8.out; omega)
            cases e
            exact h t (by have := HL8.out; omega)
          have HCS := Aside0.mk hcells
          generalize cutA (some ae) cj 8 = A8 at hsf8 HRD2
          generalize r1.drop (8 * j) = rj at HL8 HRSJ HYN HCS
          clear hPe hPl hown hg hBs hrj hmj hrd hgo hcells
          obtain ⟨go, hgo⟩ : ∃ go, go = gk := ⟨_, rfl⟩
          have HG2 := Aside0.mk (And.intro HG.out hgo)
          clear HG hgo
          have HG := HG2
          clear HG2
          go_upto_region 33 with (fail)
          go_loopg [13, 112] 9 (fun gg s13 s112 wi => ∃ t : Nat, t ≤ 8 ∧ 8 < gg + t ∧ s112 = .int .i64 t ∧ s13 = .int .i64 (sgn (beI (rj.take t))) ∧ wi = wr)
          case atStart => exact ⟨0, by omega, by omega, rfl, rfl, rfl⟩
          case round =>
            obtain ⟨t, ht, hgt, rfl, rfl, rfl⟩ := hrel
            have ht0 : (0 : Int) ≤ (t : Int) := by omega
            by_cases hlt : t < 8
            · have hlti : (t : Int) < 8 := by omega
              have hcell := HCS.out t hlt
              have hcb := HRSJ.out (rj.getD t 0) (by rw [List.getD_eq_getElem?_getD, List.getElem?_eq_getElem (by have := HL8.out; omega)]; exact List.getElem_mem _)
              have hbe := beI_take rj t (by have := HL8.out; omega)
              have hnt : ¬ 8 ≤ t := by omega
              generalize rj.getD t 0 = y at hcell hcb hbe
              generalize beI (rj.take t) = x at hbe ⊢
              have hsh := shl_byteI x
              have hor := or_byteI x y hcb.1 hcb.2
              generalize sgn x = sx at hsh ⊢
              generalize sgn (x * 256) = s2 at hsh hor
              generalize hs3 : sgn (x * 256 + y) = s3 at hor
              have HS3 : Aside0 (sgn (beI (rj.take (t + 1))) = s3) := ⟨by rw [hbe]; exact hs3⟩
              clear hbe hs3
              go_wp2
              go_roundg (gk - 1)
              case measure => omega
              case rel => exact ⟨t + 1, by omega, by omega, by go_num, by rw [HS3.out], rfl⟩
            · obtain rfl : t = 8 := by omega
              clear hlt hgt ht
              generalize hyy : sgn (beI (rj.take 8)) = y
              have HY := Aside0.mk hyy
              clear hyy
              go_upto_region 37 with (fail)
              refine wp_region_held_drew (S := (fun _ => True)) (by kernel_rfl) trivial (fun hHeld => ?_)
              refine take_in (i := 0) (v := ?v0z) rfl (by kernel_rfl) (by kernel_rfl) (by kernel_rfl) (fun _ _ _ h => h) (by rfl) ?hy0z (by assumption) ?_
              case hy0z => intro WW hSw; (try dsimp only at hSw); go_simp; try with_reducible rfl
              try simp only [Act.put, List.setIfInBounds_toArray, List.set_cons_zero, List.set_cons_succ]
              refine take_in (i := 2) (v := ?v2z) rfl (by kernel_rfl) (by kernel_rfl) (by kernel_rfl) (fun _ _ _ h => h) (by rfl) ?hy2z (by assumption) ?_
              case hy2z => intro WW hSw; (try dsimp only at hSw); go_simp; try with_reducible rfl
              try simp only [Act.put, List.setIfInBounds_toArray, List.set_cons_zero, List.set_cons_succ]
              refine take_in (i := 5) (v := ?v5z) rfl (by kernel_rfl) (by kernel_rfl) (by kernel_rfl) (fun _ _ _ h => h) (by rfl) ?hy5z (by assumption) ?_
              case hy5z => intro WW hSw; (try dsimp only at hSw); go_simp; try with_reducible rfl
              try simp only [Act.put, List.setIfInBounds_toArray, List.set_cons_zero, List.set_cons_succ]
              refine take_in (i := 6) (v := .slice A8 (mj - 8) (cj - 8)) rfl (by kernel_rfl) (by kernel_rfl) (by kernel_rfl) (fun _ _ _ h => h) (by rfl) ?hy6z (by assumption) ?_
              case hy6z => intro WW hSw; have hh := hsf8 WW; go_simp; try with_reducible rfl
              try simp only [Act.put, List.setIfInBounds_toArray, List.set_cons_zero, List.set_cons_succ]
              refine two_step (i := 1) (j := 3) (by kernel_rfl) rfl rfl (fun K hK => ?_) (fun K hK => ?_)
              · go_simp
                refine hK.out _ _ trivial (fun hHeld => ?_)
                clear hK K
                try simp only [Act.put, List.setIfInBounds_toArray, List.set_cons_zero, List.set_cons_succ]
                refine one_step (i := 3) (by kernel_rfl) rfl (fun K hK => ?_)
                go_simp
                refine hK.out _ _ trivial (fun hHeld => ?_)
                clear hK K
                try simp only [Act.put, List.setIfInBounds_toArray, List.set_cons_zero, List.set_cons_succ]
                refine one_step (i := 4) (by kernel_rfl) rfl (fun K hK => ?_)
                refine of_if (by rfl) ?_
                refine append_i64d (w0 := w) (wr := wr) (.tmp 123) (.tmp 125) rfl (w.heap.size + 1 + 1) V j (numCells P) rfl HO.out y rfl (by have := HRJ.out; omega) HBS.out HB (by omega) ?_
                intro V' W5 ho5 HB5 hsz5 hk5
                obtain ⟨P5, hP5⟩ : ∃ P5, P5 = P ++ [y] := ⟨_, rfl⟩
                have hl5 : P5.length = j + 1 := by rw [hP5, List.length_append, HPL.out]; rfl
                have HO5 : Aside0 (W5.ownsRow (w.heap.size + 1 + 1) 2 1 V' P5.length (numCells P5)) := ⟨by rw [hl5, hP5, numCells_snoc]; exact ho5⟩
                have HP5 := Aside0.mk (And.intro hP5 hl5)
                clear hP5 hl5 ho5
                obtain ⟨A5, c5, rfl, hrA5, hca5, hAb5⟩ := own_nums HO5.out
                clear hrA5 hca5 hAb5
                have xr5 : Box W5 w.heap.size #[.int .i64 0, .bool false, .int .i64 0, .string ⟨#[]⟩, .slice none 0 0] := box_far xr (by omega) hk5
                have xv5 := box_far xv (by omega) hk5
                have hbr5 := xr5.cells
                have hbv5 := xv5.cells
                have hfr5 := xr5.free
                have hfv5 := xv5.free
                clear xr xv hbr hbv hfr hfv
                refine hK.out _ _ trivial (fun hHeld => ?_)
                clear hK K
                try simp only [Act.put, List.setIfInBounds_toArray, List.set_cons_zero, List.set_cons_succ]
                refine take_in (i := 7) (v := ?v7ax) rfl (by kernel_rfl) (by kernel_rfl) (by kernel_rfl) (fun _ _ _ h => h) (by rfl) ?hy7ax (by assumption) ?_
                case hy7ax => intro WW hSw; (try dsimp only at hSw); go_simp; try with_reducible rfl
                try simp only [Act.put, List.setIfInBounds_toArray, List.set_cons_zero, List.set_cons_succ]
                refine one_step (i := 8) (by kernel_rfl) rfl (fun K hK => ?_)
                go_simp
                refine hK.out _ _ trivial (fun hHeld => ?_)
                clear hK K
                try simp only [Act.put, List.setIfInBounds_toArray, List.set_cons_zero, List.set_cons_succ]
                refine take_in (i := 9) (v := ?v9ay) rfl (by kernel_rfl) (by kernel_rfl) (by kernel_rfl) (fun _ _ _ h => h) (by rfl) ?hy9ay (by assumption) ?_
                case hy9ay => intro WW hSw; (try dsimp only at hSw); go_simp; try with_reducible rfl
                try simp only [Act.put, List.setIfInBounds_toArray, List.set_cons_zero, List.set_cons_succ]
                refine wpAnyH_done (by kernel_rfl) ?_ _
                obtain ⟨W6, hW6⟩ : ∃ W, W = W5.setCell ⟨w.heap.size + 1, 4, none⟩ (.slice A5 P5.length c5) := ⟨_, rfl⟩
                rw [← hW6]
                have HB6 : Below w.heap.size w W6 := by rw [hW6]; exact below_set HB5 (by simp) _
                have xr6 : Box W6 w.heap.size #[.int .i64 0, .bool false, .int .i64 0, .string ⟨#[]⟩, .slice none 0 0] := by rw [hW6]; exact xr5.off _ _ (by simp)
                have xv6 : Box W6 (w.heap.size + 1) #[.int .i64 6, .bool false, .int .i64 0, .string ⟨#[]⟩, .slice A5 P5.length c5] := by rw [hW6]; exact xv5.put 4 _
                have ho6 : W6.ownsRow (w.heap.size + 1 + 1) 2 1 (.slice A5 P5.length c5) (j + 1) (numCells P5) := by rw [hW6, ← HP5.out.2]; exact own_set HO5.out _ _ (by simp)
                have hs6 : w.heap.size + 1 + 1 ≤ W6.heap.size := by rw [hW6]; have := HBS.out; simp; omega
                clear hW6 xr5 xv5 hbr5 hbv5 hfr5 hfv5 HB5 hk5 hsz5 HO5 hHeld HB
                go_wp2
                go_roundg (go - 1)
                case measure => have := HG.out; have := HRJ.out; omega
                case rel =>
                  have hgg := HG.out
                  have h1 := HRJ.out
                  have h2 := HMJ.out
                  refine ⟨j + 1, r - 1, A8, mj - 8, cj - 8, .slice A5 P5.length c5, P5, by go_num, rfl, by omega, by omega, by omega, by have h3 := hgg.1; have h4 := hgg.2; omega, HRD2.out, ?_, HP5.out.2, ho6, xr6, xv6, HB6, hs6⟩
                  rw [HP5.out.1, numsP_succ, ← HPE.out, ← HYN.out, HY.out]
              · go_simp
                refine hK.out _ _ trivial (fun hHeld => ?_)
                clear hK K
                try simp only [Act.put, List.setIfInBounds_toArray, List.set_cons_zero, List.set_cons_succ]
                refine one_step (i := 1) (by kernel_rfl) rfl (fun K hK => ?_)
                have hca : (wr.alloc (.cells #[.int .i64 y] 2)).cell? ⟨w.heap.size + 1, 4, none⟩ = some V := (xv.more _).cells 4
                go_simp
                refine hK.out _ _ trivial (fun hHeld => ?_)
                clear hK K
                try simp only [Act.put, List.setIfInBounds_toArray, List.set_cons_zero, List.set_cons_succ]
                refine one_step (i := 4) (by kernel_rfl) rfl (fun K hK => ?_)
                refine of_if (by rfl) ?_
                refine append_i64d (w0 := w) (wr := wr) (.tmp 123) (.tmp 125) rfl (w.heap.size + 1 + 1) V j (numCells P) rfl HO.out y rfl (by have := HRJ.out; omega) HBS.out HB (by omega) ?_
                intro V' W5 ho5 HB5 hsz5 hk5
                obtain ⟨P5, hP5⟩ : ∃ P5, P5 = P ++ [y] := ⟨_, rfl⟩
                have hl5 : P5.length = j + 1 := by rw [hP5, List.length_append, HPL.out]; rfl
                have HO5 : Aside0 (W5.ownsRow (w.heap.size + 1 + 1) 2 1 V' P5.length (numCells P5)) := ⟨by rw [hl5, hP5, numCells_snoc]; exact ho5⟩
                have HP5 := Aside0.mk (And.intro hP5 hl5)
                clear hP5 hl5 ho5
                obtain ⟨A5, c5, rfl, hrA5, hca5, hAb5⟩ := own_nums HO5.out
                clear hrA5 hca5 hAb5
                have xr5 : Box W5 w.heap.size #[.int .i64 0, .bool false, .int .i64 0, .string ⟨#[]⟩, .slice none 0 0] := box_far xr (by omega) hk5
                have xv5 := box_far xv (by omega) hk5
                have hbr5 := xr5.cells
                have hbv5 := xv5.cells
                have hfr5 := xr5.free
                have hfv5 := xv5.free
                clear xr xv hbr hbv hfr hfv
                refine hK.out _ _ trivial (fun hHeld => ?_)
                clear hK K
                try simp only [Act.put, List.setIfInBounds_toArray, List.set_cons_zero, List.set_cons_succ]
                refine take_in (i := 7) (v := ?v7bx) rfl (by kernel_rfl) (by kernel_rfl) (by kernel_rfl) (fun _ _ _ h => h) (by rfl) ?hy7bx (by assumption) ?_
                case hy7bx => intro WW hSw; (try dsimp only at hSw); go_simp; try with_reducible rfl
                try simp only [Act.put, List.setIfInBounds_toArray, List.set_cons_zero, List.set_cons_succ]
                refine one_step (i := 8) (by kernel_rfl) rfl (fun K hK => ?_)
                go_simp
                refine hK.out _ _ trivial (fun hHeld => ?_)
                clear hK K
                try simp only [Act.put, List.setIfInBounds_toArray, List.set_cons_zero, List.set_cons_succ]
                refine take_in (i := 9) (v := ?v9by) rfl (by kernel_rfl) (by kernel_rfl) (by kernel_rfl) (fun _ _ _ h => h) (by rfl) ?hy9by (by assumption) ?_
                case hy9by => intro WW hSw; (try dsimp only at hSw); go_simp; try with_reducible rfl
                try simp only [Act.put, List.setIfInBounds_toArray, List.set_cons_zero, List.set_cons_succ]
                refine wpAnyH_done (by kernel_rfl) ?_ _
                obtain ⟨W6, hW6⟩ : ∃ W, W = W5.setCell ⟨w.heap.size + 1, 4, none⟩ (.slice A5 P5.length c5) := ⟨_, rfl⟩
                rw [← hW6]
                have HB6 : Below w.heap.size w W6 := by rw [hW6]; exact below_set HB5 (by simp) _
                have xr6 : Box W6 w.heap.size #[.int .i64 0, .bool false, .int .i64 0, .string ⟨#[]⟩, .slice none 0 0] := by rw [hW6]; exact xr5.off _ _ (by simp)
                have xv6 : Box W6 (w.heap.size + 1) #[.int .i64 6, .bool false, .int .i64 0, .string ⟨#[]⟩, .slice A5 P5.length c5] := by rw [hW6]; exact xv5.put 4 _
                have ho6 : W6.ownsRow (w.heap.size + 1 + 1) 2 1 (.slice A5 P5.length c5) (j + 1) (numCells P5) := by rw [hW6, ← HP5.out.2]; exact own_set HO5.out _ _ (by simp)
                have hs6 : w.heap.size + 1 + 1 ≤ W6.heap.size := by rw [hW6]; have := HBS.out; simp; omega
                clear hW6 xr5 xv5 hbr5 hbv5 hfr5 hfv5 HB5 hk5 hsz5 HO5 hHeld HB
                go_wp2
                go_roundg (go - 1)
                case measure => have := HG.out; have := HRJ.out; omega
                case rel =>
                  have hgg := HG.out
                  have h1 := HRJ.out
                  have h2 := HMJ.out
                  refine ⟨j + 1, r - 1, A8, mj - 8, cj - 8, .slice A5 P5.length c5, P5, by go_num, rfl, by omega, by omega, by omega, by have h3 := hgg.1; have h4 := hgg.2; omega, HRD2.out, ?_, HP5.out.2, ho6, xr6, xv6, HB6, hs6⟩
                  rw [HP5.out.1, numsP_succ, ← HPE.out, ← HYN.out, HY.out]
        · obtain rfl : r = 0 := by omega
          obtain ⟨A', c', rfl, hrA, hca, hAb⟩ := own_nums (p := P) (by rw [HPL.out]; exact hown)
          have hRt : ∀ W, Below wr.heap.size wr W → Calls Tryd.prog 22 #[.agg #[.int .i64 6, .bool false, .int .i64 0, .string ⟨#[]⟩, .slice A' P.length c']] W fun e w' => e = .returned (.bool (rightB 6 false 0 ⟨#[]⟩ P)) ∧ Below W.heap.size W w' := fun W hb => right_any 6 0 false ⟨#[]⟩ A' P c' W (hrA.below hb)
          obtain ⟨R, hR⟩ : ∃ R, rightB 6 false 0 ⟨#[]⟩ P = R := ⟨_, rfl⟩
          rw [hR] at hRt
          have HR6 := Aside0.mk hR
          have HMC := Aside0.mk hmc
          have HJQ : Aside0 (j = q) := ⟨by omega⟩
          have HD1 : Aside0 (D = if i + 1 + 1 ≤ bs.length ∧ i + 2 + 8 * q ≤ bs.length ∧ rightB 6 false 0 ⟨#[]⟩ P = true then ⟨6, 0, false, ⟨#[]⟩, P, (i : Int) + 2 + 8 * q, 0⟩ else D7.bad) := ⟨by
            have h1 : (bs.getD (i + 1) 0).toNat = q := by rw [HG1.out, HRS0.out, HXX.out]; omega
            rw [HANS.out, h1, HPE.out, HJQ.out]⟩
          have hnw : RowKit.wrap64 ((m : Int) - (mj : Int)) = (i : Int) + 2 + 8 * (q : Int) := by
            have h1 := HNX.out
            have h2 := HL1.out.2
            have h3 := HJQ.out
            rw [show (m : Int) - (mj : Int) = (i : Int) + 2 + 8 * (q : Int) by omega]
            unfold RowKit.wrap64
            omega
          have HNW := Aside0.mk hnw
          have HF1 : Aside0 (i + 1 + 1 ≤ bs.length ∧ i + 2 + 8 * q ≤ bs.length) := ⟨by
            have h1 := HNX.out
            have h2 := HL1.out.2
            have h3 := HM.out
            omega⟩
          clear hR hmc hnw hPe hPl hown hg hBs hrj hmj hrd hgo hfit
          cases R with
          | false =>
            go_wp2_with (go_at_call 22; go_loud (refine (hRt _ (Below.refl _ _)).mono ?_))
            first
              | (intro e W8 he hb8; subst he)
              | rintro e W8 ⟨rfl, hb8⟩
            have HB8 := below_then HB hb8
            have xr8 := xr.kept hb8
            have xv8 := xv.kept hb8
            have hrA8 := hrA.below hb8
            have hbr8 := xr8.cells
            have hbv8 := xv8.cells
            have hfr8 := xr8.free
            have hfv8 := xv8.free
            clear hb8 hRt xr xv hbr hbv hfr hfv HB hrA
            go_wp2
            refine wp_label ?_
            go_wp2
            obtain ⟨W7, hW7⟩ : ∃ W7, W7 = (((((W8.setCell ⟨w.heap.size, 0, none⟩ (.int .i64 0)).setCell ⟨w.heap.size, 1, none⟩ (.bool false)).setCell ⟨w.heap.size, 2, none⟩ (.int .i64 0)).setCell ⟨w.heap.size, 3, none⟩ (.string ⟨#[]⟩)).setCell ⟨w.heap.size, 4, none⟩ (.slice none 0 0)) := ⟨_, rfl⟩
            rw [← hW7]
            have HB7 : Below w.heap.size w W7 := by rw [hW7]; exact below_set (below_set (below_set (below_set (below_set HB8 (by simp) _) (by simp) _) (by simp) _) (by simp) _) (by simp) _
            have xr7 : Box W7 w.heap.size #[.int .i64 0, .bool false, .int .i64 0, .string ⟨#[]⟩, (.slice none 0 0)] := by rw [hW7]; exact ((((xr8.put 0 _).put 1 _).put 2 _).put 3 _).put 4 _
            rw [Exit.noGoto_ret]
            refine bodyPost_ret (results_c3 _ rfl rfl (box_load xr7 rfl rfl rfl rfl rfl)) rfl ?_
            rw [HD1.out, if_neg (fun h => by have h1 := HR6.out; rw [h.2.2] at h1; cases h1)]
            exact ansD_empty rfl ⟨rfl, HB7⟩
          | true =>
            go_wp2_with (go_at_call 22; go_loud (refine (hRt _ (Below.refl _ _)).mono ?_))
            first
              | (intro e W8 he hb8; subst he)
              | rintro e W8 ⟨rfl, hb8⟩
            have HB8 := below_then HB hb8
            have xr8 := xr.kept hb8
            have xv8 := xv.kept hb8
            have hrA8 := hrA.below hb8
            have hbr8 := xr8.cells
            have hbv8 := xv8.cells
            have hfr8 := xr8.free
            have hfv8 := xv8.free
            clear hb8 hRt xr xv hbr hbv hfr hfv HB hrA
            go_wp2
            obtain ⟨W7, hW7⟩ : ∃ W7, W7 = (((((W8.setCell ⟨w.heap.size, 0, none⟩ (.int .i64 6)).setCell ⟨w.heap.size, 1, none⟩ (.bool false)).setCell ⟨w.heap.size, 2, none⟩ (.int .i64 0)).setCell ⟨w.heap.size, 3, none⟩ (.string ⟨#[]⟩)).setCell ⟨w.heap.size, 4, none⟩ (.slice A' P.length c')) := ⟨_, rfl⟩
            rw [← hW7]
            have HB7 : Below w.heap.size w W7 := by rw [hW7]; exact below_set (below_set (below_set (below_set (below_set HB8 (by simp) _) (by simp) _) (by simp) _) (by simp) _) (by simp) _
            have xr7 : Box W7 w.heap.size #[.int .i64 6, .bool false, .int .i64 0, .string ⟨#[]⟩, (.slice A' P.length c')] := by rw [hW7]; exact ((((xr8.put 0 _).put 1 _).put 2 _).put 3 _).put 4 _
            have hrA7 : ReadsI W7 A' P := readsI_off hrA8 hAb (fun k hk => by
              have h9 : k ≠ w.heap.size := by omega
              rw [hW7, heap_setCell_other _ _ _ _ h9, heap_setCell_other _ _ _ _ h9, heap_setCell_other _ _ _ _ h9, heap_setCell_other _ _ _ _ h9, heap_setCell_other _ _ _ _ h9])
            rw [Exit.noGoto_ret]
            refine bodyPost_ret (results_c3 _ rfl rfl (box_load xr7 rfl rfl rfl rfl rfl)) rfl ?_
            rw [HD1.out, if_pos ⟨HF1.out.1, HF1.out.2, HR6.out⟩]
            exact ⟨A', c', congrArg (fun z => Ending.returned (Value.tuple #[_, Value.int .i64 z, Value.int .i64 0])) HNW.out, hrA7, HB7⟩
theorem right_id (k x : Int) (h : k = 4 ∨ k = 5) : rightB k false x ⟨#[]⟩ [] = idB x := by
  rcases h with rfl | rfl <;> (simp [rightB]; intros; rfl)
theorem right_2 (x : Int) : rightB 2 false x ⟨#[]⟩ [] = true := by simp [rightB]; rfl
theorem dec_any (A : Option Addr) (bs : List Int) (c : Nat) (z : Int) (w : World) (hr : ReadsB w A bs) (hbt : ∀ x ∈ bs, 0 ≤ x ∧ x < 256) (hc : bs.length ≤ c) :
    Calls Tryd.prog 36 #[.slice A bs.length c, .int .i64 z] w (AnsD (decZ bs z) w) := by
  by_cases hz : 0 ≤ z ∧ z < (bs.length : Int)
  · obtain ⟨i, rfl⟩ := Int.eq_ofNat_of_zero_le hz.1
    have hi : i < bs.length := by omega
    rw [decZ, if_pos hz, Int.toNat_natCast]
    have hb := hbt (bs.getD i 0) (by rw [List.getD_eq_getElem?_getD, List.getElem?_eq_getElem hi]; exact List.getElem_mem _)
    have hcs : bs.getD i 0 = 0 ∨ bs.getD i 0 = 1 ∨ bs.getD i 0 = 2 ∨ bs.getD i 0 = 3 ∨ bs.getD i 0 = 4 ∨ bs.getD i 0 = 5 ∨ bs.getD i 0 = 6 ∨ 6 < bs.getD i 0 := by omega
    rcases hcs with hk | hk | hk | hk | hk | hk | hk | hk
    · rw [decO_0 hk]
      exact (dec_0 A bs c i w hr hi hc hbt hk).mono fun e w' h => ansD_empty rfl h
    · rw [decO_1 hk]
      by_cases hf : i + 1 + 1 ≤ bs.length
      · by_cases hx : beI ((bs.drop (i + 1)).take 1) ≤ 1
        · rw [if_pos ⟨hf, hx⟩]
          exact (dec_1 A bs c i w hr hi hc hbt hk (by omega) hx).mono fun e w' h => ansD_empty rfl h
        · rw [if_neg (fun h => hx h.2)]
          exact (dec_1_not A bs c i w hr hi hc hbt hk (by omega) (by omega)).mono fun e w' h => ansD_empty rfl h
      · rw [if_neg (fun h => hf h.1)]
        exact (dec_1_short A bs c i w hr hi hc hbt hk (by omega)).mono fun e w' h => ansD_empty rfl h
    · rw [decO_n hk (by simp)]
      by_cases hf : i + 1 + 8 ≤ bs.length
      · rw [if_pos ⟨hf, right_2 _⟩]
        exact (dec_2 A bs c i w hr hi hc hbt hk (by omega)).mono fun e w' h => ansD_empty rfl h
      · rw [if_neg (fun h => hf h.1)]
        exact (dec_2_short A bs c i w hr hi hc hbt hk (by omega)).mono fun e w' h => ansD_empty rfl h
    · rw [decO_3 hk]
      by_cases hf : i + 1 + 4 ≤ bs.length
      · have e5 : (bs.drop (i + 1)).drop 4 = bs.drop (i + 5) := by rw [List.drop_drop]
        by_cases hx2 : beI ((bs.drop (i + 1)).take 4) ≤ ((bs.length - (i + 1) - 4 : Nat) : Int)
        · cases hR : rightB 3 false 0 (strOfNums ((bs.drop (i + 5)).take (beI ((bs.drop (i + 1)).take 4)).toNat)) []
          · rw [if_neg (by simp)]
            exact (dec_3_not A bs c i w hr hi hc hbt hk (by omega) hx2 (by rw [e5]; exact hR)).mono fun e w' h => ansD_empty rfl h
          · have hx : beI ((bs.drop (i + 1)).take 4) ≤ 4096 := by
              have h3 := right_k hR
              have hb4 := beI_bound 4 ((bs.drop (i + 1)).take 4) (by rw [List.length_take, List.length_drop]; omega) (fun y hy => hbt y (List.mem_of_mem_drop (List.mem_of_mem_take hy)))
              simp [strOfNums_size] at h3
              omega
            rw [if_pos ⟨hf, hx, by omega, rfl⟩]
            refine (dec_3_ok A bs c i w hr hi hc hbt hk (by omega) hx2 (by rw [e5]; exact hR)).mono fun e w' h => ansD_empty rfl ?_
            rw [e5] at h
            exact h
        · rw [if_neg (fun h => hx2 (by have := h.2.2.1; omega))]
          exact (dec_3_past A bs c i w hr hi hc hbt hk (by omega) (by omega)).mono fun e w' h => ansD_empty rfl h
      · rw [if_neg (fun h => hf h.1)]
        exact (dec_3_short A bs c i w hr hi hc hbt hk (by omega)).mono fun e w' h => ansD_empty rfl h
    · rw [decO_n hk (by simp), right_id 4 _ (by simp)]
      by_cases hf : i + 1 + 8 ≤ bs.length
      · cases hR : idB (sgn (beI ((bs.drop (i + 1)).take 8)))
        · rw [if_neg (by simp)]
          exact (dec_4_not A bs c i w hr hi hc hbt hk (by omega) hR).mono fun e w' h => ansD_empty rfl h
        · rw [if_pos ⟨hf, rfl⟩]
          exact (dec_4 A bs c i w hr hi hc hbt hk (by omega) hR).mono fun e w' h => ansD_empty rfl h
      · rw [if_neg (fun h => hf h.1)]
        exact (dec_4_short A bs c i w hr hi hc hbt hk (by omega)).mono fun e w' h => ansD_empty rfl h
    · rw [decO_n hk (by simp), right_id 5 _ (by simp)]
      by_cases hf : i + 1 + 8 ≤ bs.length
      · cases hR : idB (sgn (beI ((bs.drop (i + 1)).take 8)))
        · rw [if_neg (by simp)]
          exact (dec_5_not A bs c i w hr hi hc hbt hk (by omega) hR).mono fun e w' h => ansD_empty rfl h
        · rw [if_pos ⟨hf, rfl⟩]
          exact (dec_5 A bs c i w hr hi hc hbt hk (by omega) hR).mono fun e w' h => ansD_empty rfl h
      · rw [if_neg (fun h => hf h.1)]
        exact (dec_5_short A bs c i w hr hi hc hbt hk (by omega)).mono fun e w' h => ansD_empty rfl h
    · by_cases hf : i + 1 + 1 ≤ bs.length
      · have hg : bs.getD (i + 1) 0 = beI ((bs.drop (i + 1)).take 1) := by
          rw [beI_one _ (by rw [List.length_drop]; omega)]
          simp [List.getD]
        by_cases hx : 8 * beI ((bs.drop (i + 1)).take 1) ≤ ((bs.length - (i + 1) - 1 : Nat) : Int)
        · exact dec_6 A bs c i w hr hi hc hbt hk (by omega) hx
        · rw [decO_6 hk, if_neg (fun h => hx (by have h2 := h.2.1; rw [hg] at h2; omega))]
          exact (dec_6_past A bs c i w hr hi hc hbt hk (by omega) (by omega)).mono fun e w' h => ansD_empty rfl h
      · rw [decO_6 hk, if_neg (fun h => hf h.1)]
        exact (dec_6_short A bs c i w hr hi hc hbt hk (by omega)).mono fun e w' h => ansD_empty rfl h
    · rw [decO_over hk]
      exact (dec_over (bs.getD i 0) A bs c i w hr hi hc hbt rfl hk).mono fun e w' h => ansD_empty rfl h
  · rw [decZ, if_neg hz]
    have hl := hr.1
    by_cases h0 : z < 0
    · exact (dec_range0 A bs.length c z w hl h0).mono fun e w' h => ansD_empty rfl h
    · exact (dec_range1 A bs.length c z w hl ⟨h0, by omega⟩).mono fun e w' h => ansD_empty rfl h
/-- Bytes as cells. -/
def byteVals (bs : List Int) : List Value := bs.map fun n => .int .u8 n
theorem byteVals_len (bs : List Int) : (byteVals bs).length = bs.length := by simp [byteVals]
theorem byteVals_app (a b : List Int) : byteVals (a ++ b) = byteVals a ++ byteVals b := by simp [byteVals]
theorem byteVals_int {xs : List Value} (h : AllU8 xs) : byteVals (xs.map intOf) = xs := h.symm
/-- An own row of bytes, as a slice that is read. -/
theorem own_bytes {W : World} {B : Nat} {v : Value} {bs : List Int} (h : W.ownsRow B 5 1 v bs.length (byteVals bs)) :
    ∃ (A : Option Addr) (cap : Nat), v = .slice A bs.length cap ∧ ReadsB W A bs ∧ bs.length ≤ cap := by
  have h' := h
  rcases h with ⟨hl, ⟨rfl, h0⟩ | ⟨g, cap, cur, rfl, hg, hh, hn, hm, hs, htk⟩⟩
  · rw [h0]
    exact ⟨none, 0, rfl, ⟨by omega, fun hp => absurd hp (by omega)⟩, Nat.le_refl _⟩
  · refine ⟨_, cap, rfl, ⟨by unfold maxLen at hm; omega, fun _ => ⟨_, rfl, fun j hj => ?_⟩⟩, hn⟩
    have hcs := h'.cells (g := g) rfl j (.int .u8 (bs.getD j 0)) (by simp [byteVals, List.getD, hj])
    exact hcs
/-- An append of bytes that are read. -/
theorem append_reads {W : World} {ops : Array Oper} {rest : List Oper} {o : Oper} {a : Act} {Q : Exit → Act → World → Prop} (hgd : o.guard = none) (s x : Operand)
    (ho : o.op = .call { callee := .builtin .append, args := #[s, x], argTypes := #[30, 30] }) (B : Nat)
    (v : Value) (n : Nat) (xs : List Value) (hs : a.eval s = v) (hown : W.ownsRow B 5 1 v n xs) (A : Option Addr) (bs : List Int) (c : Nat) (hx : a.eval x = .slice A bs.length c) (hr : ReadsB W A bs)
    (hn : n + bs.length ≤ 140737488355328) (hB : B ≤ W.heap.size)
    (h : ∀ v' w', w'.ownsRow B 5 1 v' (n + bs.length) (xs ++ byteVals bs) → Below B W w' → wpList Tryd.prog ops Q rest (a.put o.dst v') w') :
    wpList Tryd.prog ops Q (o :: rest) a W := by
  obtain ⟨i0, hi, hz0, hz1, hz2⟩ := info_parts info_u8
  cases A with
  | some ad =>
    refine wpList_append_own W hgd s x 30 ho B 5 i0 (.int .u8 0) 1 1 Tryd.underlying30 hi hz0 hz1 hz2 rfl (by decide) v n xs hs hown ad bs.length c (byteVals bs) hx (by simp [byteVals]) ?c1 ?c2 ?c3 ?c4 hB ?_
    case c1 =>
      intro j u hj
      have hjl : j < bs.length := by
        have := (List.getElem?_eq_some_iff.1 hj).1
        simpa [byteVals] using this
      obtain ⟨ad', e, hc⟩ := hr.2 (by omega)
      cases e
      rw [hc j hjl, ← hj]
      simp [byteVals, List.getD, hjl]
    case c2 => intro u hu; simp [byteVals] at hu; obtain ⟨y, _, rfl⟩ := hu; rfl
    case c3 => unfold maxLen; omega
    case c4 => omega
    intro v' w' h1 h2 _
    exact h v' w' h1 (below_grow (w0 := W) (Below.refl B W) hB h2 (fun k e => (hown.lt k e).1))
  | none =>
    obtain rfl : bs = [] := by
      rcases List.eq_nil_or_concat bs with e | ⟨t, y, rfl⟩
      · exact e
      · obtain ⟨ad, e, _⟩ := hr.2 (by simp)
        cases e
    obtain ⟨base, cap, hv, hle⟩ : ∃ base cap, v = .slice base n cap ∧ n ≤ cap := by
      rcases hown.2 with ⟨e1, e2⟩ | ⟨g, cap, cur, e1, hg, hh, hn, hm, hs, htk⟩
      · exact ⟨none, 0, by rw [e1, e2], by omega⟩
      · exact ⟨_, cap, e1, hn⟩
    refine wpList_plain hgd fun K hK' => ?_
    have hrun := run_append_nothing (P := Tryd.prog) W 30 30 o.type 5 i0 Tryd.underlying30 hi base n cap hle (.slice none 0 c) (Src.ofNil W Tryd.underlying30 c)
    have hx' : a.eval x = .slice none 0 c := hx
    unfold Oper.wp
    rw [hv] at hs
    simp [execOp, ho, resolve, invoke, builtin, hs, hx', hrun, Result.andThen]
    refine hK' _ _ ?_
    rw [← hv]
    exact h v W (by simpa [byteVals] using hown) (Below.refl _ _)
end Go.Proofs.YthafbdkjpgeopaaDoor
