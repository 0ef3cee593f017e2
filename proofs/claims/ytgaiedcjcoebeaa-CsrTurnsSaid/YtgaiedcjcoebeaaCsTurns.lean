/- The walk of the law CsrTurns. -/
import Derived.Test.YtgaiedcjcoebeaaCsTurnP
set_option linter.unusedVariables false
set_option linter.unusedSimpArgs false
namespace Go.Proofs.Ytgaiedcjcoebeaa
open Go.RowKit

set_option maxRecDepth 100000 in
set_option maxHeartbeats 12800000 in
theorem turns_walk (A : Option Addr) (rs : List R3) (c : Nat) (z : Int) (w : World) (hr : ReadsL w A rs) (hsm : Small rs) (hz0 : 0 ≤ z) (hz1 : z ≤ 255) (hcap : rs.length ≤ c) (hrl : rs.length ≤ 5864062014634) :
    Calls Try.prog 4 #[.slice A rs.length c, .int .u8 z] w fun e w' => e = .returned (.bool true) ∧ Below w.heap.size w w' := by
  have hH := fun W => head_any W
  have hM := fun W (h : Below w.heap.size w W) => meet_reads A rs c W (hr.below h) hsm
  have hcs := meet_cases (lsOf rs)
  obtain ⟨P, hPe⟩ : ∃ P, P = meetL (lsOf rs) := ⟨_, rfl⟩
  obtain ⟨m, hm⟩ : ∃ m, m = rs.length := ⟨_, rfl⟩
  rw [← hPe] at hM hcs
  rw [← hm] at hM hcap hrl ⊢
  have hm63 : (m : Int) ≤ 5864062014634 := by omega
  have hcapi : (m : Int) ≤ (c : Int) := by omega
  have HRS := Aside0.mk hr
  have HS := Aside0.mk hsm
  have HM := Aside0.mk hm
  clear hr hsm hm hPe
  generalize meetE (lsOf rs) = E at hM hcs
  have HCS := Aside0.mk hcs
  clear hcs
  go_enter Try.func4, Try.ntmps4
  go_wp2_with (go_at_call 6; go_loud (refine (hH _).mono ?_))
  first
    | (intro e W1 he hb1; subst he)
    | rintro e W1 ⟨rfl, hb1⟩
  have HB1 : Below w.heap.size w W1 := by first | exact hb1 | exact below_more hb1
  clear hb1 hH
  go_wp2_with (go_at_call 7; go_loud (refine (hM _ HB1).mono ?_))
  first
    | (intro e W2 A1 k1 he hrA hca hb2; subst he)
    | rintro e W2 ⟨A1, k1, rfl, hrA, hca, hb2⟩
  have HB2 := below_then HB1 hb2
  clear hb2 hM HB1 hca
  have HRA := Aside0.mk hrA
  clear hrA
  rcases HCS.out with ⟨hE, hP⟩ | ⟨hE, hP⟩ | ⟨hE, hne, hup, hP⟩
  · rw [hE]
    subst hP
    clear hE HCS
    rw [List.length_nil]
    go_wp2
    go_ret
    exact ⟨rfl, HB2⟩
  · rw [hE]
    subst hP
    clear hE HCS
    rw [List.length_nil]
    go_wp2
    go_ret
    exact ⟨rfl, HB2⟩
  subst hE
  clear HCS
  have hm0 : 0 < m := by
    rcases Nat.eq_zero_or_pos m with e | e
    · have h1 := HM.out
      rw [e] at h1
      exact absurd (by rw [List.length_eq_zero_iff.1 h1.symm]; rfl) hne
    · exact e
  obtain ⟨n, hn⟩ : ∃ n, n = z.toNat % m := ⟨_, rfl⟩
  have hnm : n < m := by rw [hn]; exact Nat.mod_lt _ hm0
  obtain ⟨r, hr⟩ : ∃ r, r = rs.getD n r30 := ⟨_, rfl⟩
  have hnr : n < rs.length := by have := HM.out; omega
  have hrm : r ∈ rs := by rw [hr]; exact getD_mem rs n hnr
  obtain ⟨ts, hts⟩ : ∃ ts, ts = rs.drop n ++ rs.take n := ⟨_, rfl⟩
  obtain ⟨t3, ht3⟩ : ∃ t3, t3 = ts ++ [r] := ⟨_, rfl⟩
  have he2 := turn_meet rs n hnr hup
  have he3 := twice_meet rs n hnr hup
  rw [← hr, ← hts, ← ht3] at he3
  rw [← hts] at he2
  rw [← hP] at he2 he3
  have htl : ts.length = m := by rw [hts, List.length_append, List.length_drop, List.length_take]; have := HM.out; omega
  have htm : ∀ x ∈ ts, x ∈ rs := fun x hx => by
    rw [hts, List.mem_append] at hx
    rcases hx with h | h
    · exact List.mem_of_mem_drop h
    · exact List.mem_of_mem_take h
  have htm3 : ∀ x ∈ t3, x ∈ rs := fun x hx => by
    rw [ht3, List.mem_append] at hx
    rcases hx with h | h
    · exact htm x h
    · simp only [List.mem_singleton] at h
      rw [h]; exact hrm
  have hs2 : Small ts := ⟨by omega, fun x hx => HS.out.nums x (htm x hx)⟩
  have hs3 : Small t3 := ⟨by rw [ht3, List.length_append]; simp; omega, fun x hx => HS.out.nums x (htm3 x hx)⟩
  have hur : Up r.l := hup r.l (List.mem_map.2 ⟨r, hrm, rfl⟩)
  have hcr := HRS.out.cap r hrm
  have hnr2 := HS.out.nums r hrm
  have hM4 : ∀ Y, Below w.heap.size w Y → _ := fun Y hY => meet_one r Y ((HRS.out.below hY).each r hrm) hcr hnr2 hur
  have hRR : ∀ Y, Below w.heap.size w Y → _ := fun Y hY => (HRS.out.below hY).each r hrm
  obtain ⟨ad0, hA0, -, hc0⟩ := HRS.out.row n hnr
  rw [← hr] at hc0
  have hrow : ∀ X, Below w.heap.size w X → ∀ j, j < rs.length → X.cell? (ad0.add j) = some (rs.getD j r30).val := fun X hX j hj => by
    obtain ⟨ad, e, _, hc⟩ := (HRS.out.below hX).row j hj
    rw [hA0] at e
    obtain rfl : ad0 = ad := by simpa using e
    exact hc
  have haa : ∀ i j : Nat, (ad0.add i).add j = ad0.add (i + j) := fun i j => add_add ad0 i j
  subst hA0
  obtain ⟨q1, hq1⟩ : ∃ q1, q1 = m - n := ⟨_, rfl⟩
  obtain ⟨c1, hc1⟩ : ∃ c1, c1 = c - n := ⟨_, rfl⟩
  have hQ1 : (rs.drop n).length = q1 := by rw [List.length_drop, hq1]; have := HM.out; omega
  have hQ2 : (rs.take n).length = n := by rw [List.length_take]; have := HM.out; omega
  have hD : ∀ X, Below w.heap.size w X → ∀ j, j < (rs.drop n).length → X.cell? ((ad0.add n).add j) = some ((rs.drop n).getD j r30).val := fun X hX j hj => by
    rw [haa]
    have h := hrow X hX (n + j) (by rw [List.length_drop] at hj; omega)
    rw [h]
    simp [List.getD]
  have hEx : ∀ X, Below w.heap.size w X → ∀ j, j < (rs.take n).length → X.cell? (ad0.add j) = some ((rs.take n).getD j r30).val := fun X hX j hj => by
    rw [hQ2] at hj
    have h := hrow X hX j (by omega)
    rw [h]
    simp [List.getD, List.getElem?_take, hj]
  have hcn : ∀ X, Below w.heap.size w X → X.cell? (ad0.add n) = some r.val := fun X hX => by rw [hrow X hX n hnr, hr]
  obtain ⟨An, ln, cn⟩ := r
  simp only [R3.val] at hcn hM4 hRR hcr hnr2
  obtain ⟨nn, hnn⟩ : ∃ nn, nn = ln.length := ⟨_, rfl⟩
  rw [← hnn] at hcn hM4
  have HCN := Aside0.mk hcn
  have HM4 := Aside0.mk hM4
  have HRR := Aside0.mk hRR
  have HNN := Aside0.mk hnn
  have HQ1 := Aside0.mk hQ1
  have HQ2 := Aside0.mk hQ2
  have HD := Aside0.mk hD
  have HE := Aside0.mk hEx
  have HTS := Aside0.mk hts
  have HT3 := Aside0.mk ht3
  have HTM := Aside0.mk htm
  have HTM3 := Aside0.mk htm3
  have HTL := Aside0.mk (And.intro htl hrl)
  have HS2 := Aside0.mk hs2
  have HS3 := Aside0.mk hs3
  have HE2 := Aside0.mk he2
  have HE3 := Aside0.mk he3
  have HHN := Aside0.mk hn
  have hqs : q1 + n = m := by omega
  have hq1n : m - n = q1 := by omega
  have hc1n : c - n = c1 := by omega
  have hcc : c1 + n = c := by omega
  have hq1i : (m : Int) - (n : Int) = (q1 : Int) := by omega
  have hc1i : (c : Int) - (n : Int) = (c1 : Int) := by omega
  have hni : (n : Int) < (m : Int) := by omega
  have hn0 : (0 : Int) ≤ (n : Int) := by omega
  have hnc : n < c := by omega
  have hnci : (n : Int) < (c : Int) := by omega
  have hmi : (0 : Int) < (m : Int) := by omega
  have hmb : ((m : Int) == 0) = false := by rw [beq_eq_false_iff_ne]; omega
  have hmne : (m : Int) ≠ 0 := by omega
  have hzw : IntKind.i64.wrap z = z := by rw [IntKind.wrap_i64]; omega
  have hnw : IntKind.i64.wrap (n : Int) = (n : Int) := by rw [IntKind.wrap_i64]; omega
  have hmod : z % (m : Int) = (n : Int) := by
    rw [hn]
    have e : z = (z.toNat : Int) := by omega
    conv => lhs; rw [e]
    rfl
  have htmod : z.tmod (m : Int) = (n : Int) := by
    rw [← hmod]
    exact Int.tmod_eq_emod_of_nonneg hz0
  have hqq : 0 + q1 ≤ 5864062014634 ∧ 0 + q1 + n ≤ 5864062014634 := by omega
  clear hcn hM4 hRR hnn hQ1 hQ2 hD hEx hts ht3 htm htm3 htl hs2 hs3 he2 he3 hn hc0 hrow haa hur hcr hnr2 hrm hr hne hup hP hq1 hc1
  go_upto_region 6 with (fail)
  refine wp_region_held_drew (S := (fun WW : World => True)) (by kernel_rfl) ?_ (fun hHeld => ?_)
  · exact trivial
  refine take_in (i := 1) (v := ?v1z1) rfl (by kernel_rfl) (by kernel_rfl) (by kernel_rfl) (fun _ _ _ h => h) (by rfl) ?hy1z1 (by assumption) ?_
  case hy1z1 => intro WW hSw; (try dsimp only at hSw); go_simp; try with_reducible rfl
  try simp only [Act.put, List.setIfInBounds_toArray, List.set_cons_zero, List.set_cons_succ]
  refine take_in (i := 2) (v := ?v2z2) rfl (by kernel_rfl) (by kernel_rfl) (by kernel_rfl) (fun _ _ _ h => h) (by rfl) ?hy2z2 (by assumption) ?_
  case hy2z2 => intro WW hSw; (try dsimp only at hSw); go_simp; try with_reducible rfl
  try simp only [Act.put, List.setIfInBounds_toArray, List.set_cons_zero, List.set_cons_succ]
  refine take_in (i := 3) (v := .slice (some (ad0.add n)) q1 c1) rfl (by kernel_rfl) (by kernel_rfl) (by kernel_rfl) (fun _ _ _ h => h) (by rfl) ?hy3z3 (by assumption) ?_
  case hy3z3 => intro WW hSw; (try dsimp only at hSw); go_simp; rw [if_pos (by omega), if_neg (by omega)]
  try simp only [Act.put, List.setIfInBounds_toArray, List.set_cons_zero, List.set_cons_succ]
  refine take_in (i := 5) (v := ?v5z4) rfl (by kernel_rfl) (by kernel_rfl) (by kernel_rfl) (fun _ _ _ h => h) (by rfl) ?hy5z4 (by assumption) ?_
  case hy5z4 => intro WW hSw; (try dsimp only at hSw); go_simp; try with_reducible rfl
  try simp only [Act.put, List.setIfInBounds_toArray, List.set_cons_zero, List.set_cons_succ]
  refine take_in (i := 6) (v := ?v6z5) rfl (by kernel_rfl) (by kernel_rfl) (by kernel_rfl) (fun _ _ _ h => h) (by rfl) ?hy6z5 (by assumption) ?_
  case hy6z5 => intro WW hSw; (try dsimp only at hSw); go_simp; try with_reducible rfl
  try simp only [Act.put, List.setIfInBounds_toArray, List.set_cons_zero, List.set_cons_succ]
  refine take_in (i := 7) (v := .slice (some ad0) n c) rfl (by kernel_rfl) (by kernel_rfl) (by kernel_rfl) (fun _ _ _ h => h) (by rfl) ?hy7z6 (by assumption) ?_
  case hy7z6 => intro WW hSw; (try dsimp only at hSw); go_simp; intro hlt; omega
  try simp only [Act.put, List.setIfInBounds_toArray, List.set_cons_zero, List.set_cons_succ]
  refine name_world (F := fun X => Below w.heap.size w X ∧ ReadsI X A1 P) ⟨(by repeat (first | exact Below.refl _ _ | assumption | apply below_drew | apply below_drewn | apply below_more)), HRA.out.below (by repeat (first | exact Below.refl _ _ | assumption | apply below_drew | apply below_drewn | apply below_more))⟩ (fun X0 HF => ?_)
  obtain ⟨HX0, hrA0⟩ := HF
  have HRA0 := Aside0.mk hrA0
  clear hHeld hrA0
  have hHeld : (fun WW : World => True) X0 := trivial
  have HB0 := Below.refl X0.heap.size X0
  have HS0 : w.heap.size ≤ X0.heap.size := HX0.size
  refine one_step (i := 0) (by kernel_rfl) rfl (fun K hK => ?_)
  go_simp
  refine hK.out _ _ trivial (fun hHeld => ?_)
  clear hHeld hK K
  try simp only [Act.put, List.setIfInBounds_toArray, List.set_cons_zero, List.set_cons_succ]
  refine name_world (F := fun X => Below w.heap.size w X ∧ Below X0.heap.size X0 X ∧ X.ownsRow X0.heap.size 24 1 (.slice (some ⟨X0.heap.size, 0, none⟩) 0 0) 0 []) ⟨(by repeat (first | exact Below.refl _ _ | assumption | apply below_drew | apply below_drewn | apply below_more)), below_more HB0 _, own_empty X0 _ (Nat.le_refl _)⟩ (fun X1 hF => ?_)
  obtain ⟨HX1, HB1, hO1⟩ := hF
  have hHeld : (fun WW : World => True) X1 := trivial
  refine one_step (i := 4) (by kernel_rfl) rfl (fun K hK => ?_)
  refine of_if (by rfl) ?_
  refine append_rows (.tmp 42) (.tmp 45) rfl X0.heap.size _ 0 [] rfl hO1 (ad0.add n) q1 c1 rfl (rs.drop n) HQ1.out (HD.out X1 HX1) (by omega) HB1.size ?_
  intro v2 X2 hO2 hb2 hg2
  have HX2 : Below w.heap.size w X2 := HX1.trans (hb2.mono HS0)
  have HB2 : Below X0.heap.size X0 X2 := HB1.trans hb2
  clear hb2 hg2 hO1
  refine hK.out _ _ trivial (fun hHeld => ?_)
  clear hHeld hK K
  try simp only [Act.put, List.setIfInBounds_toArray, List.set_cons_zero, List.set_cons_succ]
  refine name_world (F := fun X => Below w.heap.size w X ∧ Below X0.heap.size X0 X ∧ X.ownsRow X0.heap.size 24 1 v2 (0 + q1) ([] ++ rowCells (rs.drop n))) ⟨HX2, HB2, hO2⟩ (fun X3 hF => ?_)
  obtain ⟨HX3, HB3, hO3⟩ := hF
  have hHeld : (fun WW : World => True) X3 := trivial
  clear HX2 HB2 hO2 HX1 HB1
  refine one_step (i := 8) (by kernel_rfl) rfl (fun K hK => ?_)
  refine of_if (by rfl) ?_
  refine append_rows (.tmp 46) (.tmp 49) rfl X0.heap.size _ _ _ rfl hO3 ad0 n c rfl (rs.take n) HQ2.out (HE.out X3 HX3) (by omega) HB3.size ?_
  intro v4 X4 hO4 hb4 hg4
  have HX4 : Below w.heap.size w X4 := HX3.trans (hb4.mono HS0)
  have HB4 : Below X0.heap.size X0 X4 := HB3.trans hb4
  clear hb4 hg4 hO3
  have hO4b : X4.ownsRow X0.heap.size 24 1 v4 ts.length (rowCells ts) := by
    have e1 : ts.length = 0 + q1 + n := by rw [HTS.out, List.length_append, HQ1.out, HQ2.out]; omega
    have e2 : rowCells ts = [] ++ rowCells (rs.drop n) ++ rowCells (rs.take n) := by rw [HTS.out]; simp [rowCells]
    rw [e1, e2]; exact hO4
  obtain ⟨A9, c9, rfl, hr9⟩ := own_rowsL hO4b (fun r hr => (HRS.out.below HX4).each r (HTM.out r hr)) (fun r hr => HRS.out.cap r (HTM.out r hr))
  have hrA4 := HRA0.out.below HB4
  clear hO4 hO4b
  refine hK.out _ _ trivial (fun hHeld => ?_)
  clear hHeld hK K
  try simp only [Act.put, List.setIfInBounds_toArray, List.set_cons_zero, List.set_cons_succ]
  refine name_world (F := fun X => Below w.heap.size w X ∧ ReadsL X A9 ts ∧ ReadsI X A1 P) ⟨HX4, hr9, hrA4⟩ (fun X5 hF => ?_)
  obtain ⟨HX5, hr5, hrA5⟩ := hF
  have hHeld : (fun WW : World => True) X5 := trivial
  clear HX4 HB4 hr9 HX3 HB3 HB0 HS0 HRA0 HX0 hrA4
  refine take_in (i := 9) (v := ?v9z7) rfl (by kernel_rfl) (by kernel_rfl) (by kernel_rfl) (fun _ _ _ h => h) (by rfl) ?hy9z7 (by assumption) ?_
  case hy9z7 => intro WW hSw; (try dsimp only at hSw); go_simp; try with_reducible rfl
  try simp only [Act.put, List.setIfInBounds_toArray, List.set_cons_zero, List.set_cons_succ]
  refine wpAnyH_done (by kernel_rfl) ?_ _
  have hM2 := meet_reads A9 ts c9 X5 hr5 HS2.out
  rw [HE2.out.1, HE2.out.2] at hM2
  obtain ⟨ad9, hA9, -, -⟩ := hr5.row 0 (by have := HTL.out; omega)
  subst hA9
  clear HRA
  go_wp2_with (go_at_call 7; go_loud (refine hM2.mono ?_))
  first
    | (intro e W7 B2 k2 he hrB hcb hb7; subst he)
    | rintro e W7 ⟨B2, k2, rfl, hrB, hcb, hb7⟩
  have HW7 := below_then HX5 hb7
  have HR9 := Aside0.mk (hr5.below hb7)
  have HRB := Aside0.mk hrB
  have HRA := Aside0.mk (hrA5.below hb7)
  clear hM2 hcb hb7 hr5 hrA5 HX5 hrB
  go_upto_region 8 with (fail)
  refine wp_region_held_drew (S := (fun WW : World => WW.cell? (ad0.add n) = some (.slice An nn cn))) (by kernel_rfl) ?_ (fun hHeld => ?_)
  · exact HCN.out _ (by repeat (first | exact Below.refl _ _ | assumption | apply below_drew | apply below_drewn | apply below_more))
  refine take_in (i := 1) (v := ?v1z8) rfl (by kernel_rfl) (by kernel_rfl) (by kernel_rfl) (fun _ _ _ h => h) (by rfl) ?hy1z8 (by assumption) ?_
  case hy1z8 => intro WW hSw; (try dsimp only at hSw); go_simp; try with_reducible rfl
  try simp only [Act.put, List.setIfInBounds_toArray, List.set_cons_zero, List.set_cons_succ]
  refine take_in (i := 3) (v := ?v3z9) rfl (by kernel_rfl) (by kernel_rfl) (by kernel_rfl) (fun _ _ _ h => h) (by rfl) ?hy3z9 (by assumption) ?_
  case hy3z9 => intro WW hSw; (try dsimp only at hSw); go_simp; try with_reducible rfl
  try simp only [Act.put, List.setIfInBounds_toArray, List.set_cons_zero, List.set_cons_succ]
  refine take_in (i := 4) (v := ?v4z10) rfl (by kernel_rfl) (by kernel_rfl) (by kernel_rfl) (fun _ _ _ h => h) (by rfl) ?hy4z10 (by assumption) ?_
  case hy4z10 => intro WW hSw; (try dsimp only at hSw); go_simp; try with_reducible rfl
  try simp only [Act.put, List.setIfInBounds_toArray, List.set_cons_zero, List.set_cons_succ]
  refine take_in (i := 5) (v := ?v5z11) rfl (by kernel_rfl) (by kernel_rfl) (by kernel_rfl) (fun _ _ _ h => h) (by rfl) ?hy5z11 (by assumption) ?_
  case hy5z11 => intro WW hSw; (try dsimp only at hSw); go_simp; try with_reducible rfl
  try simp only [Act.put, List.setIfInBounds_toArray, List.set_cons_zero, List.set_cons_succ]
  refine take_in (i := 6) (v := ?v6z12) rfl (by kernel_rfl) (by kernel_rfl) (by kernel_rfl) (fun _ _ _ h => h) (by rfl) ?hy6z12 (by assumption) ?_
  case hy6z12 => intro WW hSw; (try dsimp only at hSw); go_simp; try with_reducible rfl
  try simp only [Act.put, List.setIfInBounds_toArray, List.set_cons_zero, List.set_cons_succ]
  refine name_world (F := fun X => Below w.heap.size w X ∧ ReadsL X (some ad9) ts ∧ ReadsI X A1 P ∧ ReadsI X B2 P) ⟨(by repeat (first | exact Below.refl _ _ | assumption | apply below_drew | apply below_drewn | apply below_more)), HR9.out.below (by repeat (first | exact Below.refl _ _ | assumption | apply below_drew | apply below_drewn | apply below_more)), HRA.out.below (by repeat (first | exact Below.refl _ _ | assumption | apply below_drew | apply below_drewn | apply below_more)), HRB.out.below (by repeat (first | exact Below.refl _ _ | assumption | apply below_drew | apply below_drewn | apply below_more))⟩ (fun Y0 HF => ?_)
  clear hHeld
  obtain ⟨HXY0, hr90, hrA0, hrB0⟩ := HF
  have hHeld : (fun WW : World => WW.cell? (ad0.add n) = some (.slice An nn cn)) Y0 := HCN.out _ HXY0
  have HBY0 := Below.refl Y0.heap.size Y0
  have HY0 : w.heap.size ≤ Y0.heap.size := HXY0.size
  have hT9 : ∀ X, Below Y0.heap.size Y0 X → ∀ j, j < ts.length → X.cell? (ad9.add j) = some (ts.getD j r30).val := fun X hX j hj => by
    obtain ⟨ad, e, _, hc⟩ := (hr90.below hX).row j hj
    obtain rfl : ad9 = ad := by simpa using e
    exact hc
  have HT9 := Aside0.mk hT9
  have HRA0 := Aside0.mk hrA0
  have HRB0 := Aside0.mk hrB0
  clear hT9 hrA0 hrB0 hr90
  refine two_step (i := 0) (j := 7) (by kernel_rfl) rfl rfl (fun K hK => ?_) (fun K hK => ?_)
  · go_simp
    refine hK.out _ _ (HCN.out _ (below_more HXY0 _)) (fun hHeld => ?_)
    clear hHeld hK K
    try simp only [Act.put, List.setIfInBounds_toArray, List.set_cons_zero, List.set_cons_succ]
    refine name_world (F := fun X => Below w.heap.size w X ∧ Below Y0.heap.size Y0 X ∧ X.ownsRow Y0.heap.size 24 1 (.slice (some ⟨Y0.heap.size, 0, none⟩) 0 0) 0 []) ⟨below_more HXY0 _, below_more HBY0 _, own_empty Y0 _ HBY0.size⟩ (fun Y1 hF => ?_)
    obtain ⟨HXY1, HBY1, hEY1⟩ := hF
    have hHeld : (fun WW : World => WW.cell? (ad0.add n) = some (.slice An nn cn)) Y1 := HCN.out _ HXY1
    obtain ⟨gE, hgY0⟩ : ∃ g, g = Y0.heap.size := ⟨_, rfl⟩
    have hE_ : Y1.ownsRow Y0.heap.size 24 1 (.slice (some ⟨gE, 0, none⟩) 0 0) 0 [] := by rw [hgY0]; exact hEY1
    clear hEY1
    have hEY1 := hE_
    clear hE_
    simp only [← hgY0] at ⊢
    clear hgY0
    refine two_step (i := 2) (j := 7) (by kernel_rfl) rfl rfl (fun K hK => ?_) (fun K hK => ?_)
    · refine of_if (by rfl) ?_
      refine append_rows (.tmp 57) (.tmp 58) rfl Y0.heap.size _ 0 [] rfl hEY1 ad9 ts.length c9 rfl ts rfl (HT9.out Y1 HBY1) (by have := HTL.out; omega) HBY1.size ?_
      intro v2 Z hT0 hb0 hg0
      have HXZ : Below w.heap.size w Z := HXY1.trans (hb0.mono HY0)
      have HBZ : Below Y0.heap.size Y0 Z := HBY1.trans hb0
      refine hK.out _ _ (HCN.out _ HXZ) (fun hHeld => ?_)
      clear hHeld hK K
      try simp only [Act.put, List.setIfInBounds_toArray, List.set_cons_zero, List.set_cons_succ]
      refine name_world (F := fun X => Below w.heap.size w X ∧ Below Y0.heap.size Y0 X ∧ X.ownsRow Y0.heap.size 24 1 v2 (0 + ts.length) ([] ++ rowCells ts)) ⟨HXZ, HBZ, hT0⟩ (fun Y2 hF => ?_)
      obtain ⟨HXY2, HBY2, hTY2⟩ := hF
      have hHeld : (fun WW : World => WW.cell? (ad0.add n) = some (.slice An nn cn)) Y2 := HCN.out _ HXY2
      clear HXY1 HBY1
      clear hEY1
      clear hT0 hb0 hg0 HXZ HBZ
      refine one_step (i := 7) (by kernel_rfl) rfl (fun K hK => ?_)
      go_simp
      refine hK.out _ _ (HCN.out _ (below_more HXY2 _)) (fun hHeld => ?_)
      clear hHeld hK K
      try simp only [Act.put, List.setIfInBounds_toArray, List.set_cons_zero, List.set_cons_succ]
      refine name_world (F := fun X => Below w.heap.size w X ∧ Below Y0.heap.size Y0 X ∧ X.cell? ⟨Y2.heap.size, 0, none⟩ = some (.slice An nn cn) ∧ X.ownsRow Y0.heap.size 24 1 v2 (0 + ts.length) ([] ++ rowCells ts)) ⟨below_more HXY2 _, below_more HBY2 _, cell_new Y2 _ _, hTY2.alloc _⟩ (fun Y3 hF => ?_)
      obtain ⟨HXY3, HBY3, h7Y3, hTY3⟩ := hF
      have hHeld : (fun WW : World => WW.cell? (ad0.add n) = some (.slice An nn cn)) Y3 := HCN.out _ HXY3
      obtain ⟨g7, hgY2⟩ : ∃ g, g = Y2.heap.size := ⟨_, rfl⟩
      simp only [← hgY2] at h7Y3 ⊢
      clear hgY2
      clear HXY2 HBY2
      clear hTY2
      refine one_step (i := 8) (by kernel_rfl) rfl (fun K hK => ?_)
      refine of_if (by rfl) ?_
      refine append_rows (.tmp 59) (.tmp 64) rfl Y0.heap.size _ _ _ rfl hTY3 ⟨g7, 0, none⟩ 1 1 rfl [⟨An, ln, cn⟩] rfl (fun j hj => ?_) (by have := HTL.out; omega) HBY3.size ?_
      · obtain rfl : j = 0 := by simpa using hj
        have hz := h7Y3
        rw [HNN.out] at hz
        rw [addr_none]
        exact hz
      intro v8 Z8 hT8 hb8 hg8
      have HX8 : Below w.heap.size w Z8 := HXY3.trans (hb8.mono HY0)
      have HB8 : Below Y0.heap.size Y0 Z8 := HBY3.trans hb8
      have hT8b : Z8.ownsRow Y0.heap.size 24 1 v8 t3.length (rowCells t3) := by
        have e1 : t3.length = 0 + ts.length + 1 := by rw [HT3.out]; simp
        have e2 : rowCells t3 = [] ++ rowCells ts ++ rowCells [⟨An, ln, cn⟩] := by rw [HT3.out]; simp [rowCells]
        rw [e1, e2]; exact hT8
      obtain ⟨A8, c8, rfl, hr8⟩ := own_rowsL hT8b (fun r hr => (HRS.out.below HX8).each r (HTM3.out r hr)) (fun r hr => HRS.out.cap r (HTM3.out r hr))
      clear hT8 hT8b hb8 hg8
      refine hK.out _ _ (HCN.out _ HX8) (fun hHeld => ?_)
      clear hHeld hK K
      try simp only [Act.put, List.setIfInBounds_toArray, List.set_cons_zero, List.set_cons_succ]
      refine name_world (F := fun X => Below w.heap.size w X ∧ Below Y0.heap.size Y0 X ∧ ReadsL X A8 t3) ⟨HX8, HB8, hr8⟩ (fun X8 hF => ?_)
      obtain ⟨HX9, HB9, hr9⟩ := hF
      have hHeld : (fun WW : World => WW.cell? (ad0.add n) = some (.slice An nn cn)) X8 := HCN.out _ HX9
      clear HX8 HB8 hr8 HXY3 HBY3 hTY3 h7Y3
      refine one_step (i := 9) (by kernel_rfl) rfl (fun K hK => ?_)
      have hM3 := meet_reads A8 t3 c8 X8 hr9 HS3.out
      rw [HE3.out.1, HE3.out.2] at hM3
      go_simp
      go_at_call 7
      go_loud (refine hM3.mono ?_)
      rintro e Z9 ⟨C3, k3, rfl, hrC, -, hb9⟩
      have HXZ9 : Below w.heap.size w Z9 := below_then HX9 hb9
      have HBZ9 : Below Y0.heap.size Y0 Z9 := below_then HB9 hb9
      clear hM3 hb9
      refine hK.out _ _ (HCN.out _ HXZ9) (fun hHeld => ?_)
      clear hHeld hK K
      try simp only [Act.put, List.setIfInBounds_toArray, List.set_cons_zero, List.set_cons_succ]
      refine name_world (F := fun X => Below w.heap.size w X ∧ Below Y0.heap.size Y0 X ∧ ReadsI X C3 P) ⟨HXZ9, HBZ9, hrC⟩ (fun XA hF => ?_)
      obtain ⟨HXA, HBA, hrCA⟩ := hF
      have hHeld : (fun WW : World => WW.cell? (ad0.add n) = some (.slice An nn cn)) XA := HCN.out _ HXA
      clear HXZ9 HBZ9 hrC HX9 HB9 hr9
      refine take_in (i := 10) (v := ?v10z13) rfl (by kernel_rfl) (by kernel_rfl) (by kernel_rfl) (fun _ _ _ h => h) (by rfl) ?hy10z13 (by assumption) ?_
      case hy10z13 => intro WW hSw; (try dsimp only at hSw); go_simp; try with_reducible rfl
      try simp only [Act.put, List.setIfInBounds_toArray, List.set_cons_zero, List.set_cons_succ]
      refine take_in (i := 11) (v := ?v11z14) rfl (by kernel_rfl) (by kernel_rfl) (by kernel_rfl) (fun _ _ _ h => h) (by rfl) ?hy11z14 (by assumption) ?_
      case hy11z14 => intro WW hSw; (try dsimp only at hSw); go_simp; try with_reducible rfl
      try simp only [Act.put, List.setIfInBounds_toArray, List.set_cons_zero, List.set_cons_succ]
      refine take_in (i := 12) (v := ?v12z15) rfl (by kernel_rfl) (by kernel_rfl) (by kernel_rfl) (fun _ _ _ h => h) (by rfl) ?hy12z15 (by assumption) ?_
      case hy12z15 => intro WW hSw; (try dsimp only at hSw); go_simp; try with_reducible rfl
      try simp only [Act.put, List.setIfInBounds_toArray, List.set_cons_zero, List.set_cons_succ]
      refine take_in (i := 13) (v := ?v13z16) rfl (by kernel_rfl) (by kernel_rfl) (by kernel_rfl) (fun _ _ _ h => h) (by rfl) ?hy13z16 (by assumption) ?_
      case hy13z16 => intro WW hSw; (try dsimp only at hSw); go_simp; try with_reducible rfl
      try simp only [Act.put, List.setIfInBounds_toArray, List.set_cons_zero, List.set_cons_succ]
      refine take_in (i := 14) (v := ?v14z17) rfl (by kernel_rfl) (by kernel_rfl) (by kernel_rfl) (fun _ _ _ h => h) (by rfl) ?hy14z17 (by assumption) ?_
      case hy14z17 => intro WW hSw; (try dsimp only at hSw); go_simp; try with_reducible rfl
      try simp only [Act.put, List.setIfInBounds_toArray, List.set_cons_zero, List.set_cons_succ]
      refine wpAnyH_done (by kernel_rfl) ?_ _
      have HRA1 := Aside0.mk (HRA0.out.below HBA)
      have HRB1 := Aside0.mk (HRB0.out.below HBA)
      have HRC1 := Aside0.mk hrCA
      have hcell := HCN.out XA HXA
      have hM5 := fun Y (h : Below XA.heap.size XA Y) => HM4.out Y (below_then HXA h)
      clear hrCA HBA HRA0 HRB0
      go_wp2_with (go_at_call 7; go_loud (refine (hM5 _ (by repeat (first | exact Below.refl _ _ | assumption | apply below_drew | apply below_drewn))).mono ?_))
      first
        | (intro e W8 D4 k4 he hrD hb8; subst he)
        | rintro e W8 ⟨D4, k4, rfl, hrD, hb8⟩
      have HB8 : Below XA.heap.size XA W8 := below_then (by repeat (first | exact Below.refl _ _ | assumption | apply below_drew | apply below_drewn)) hb8
      have hS1 := fun W (h : Below XA.heap.size XA W) => sameInts_any A1 B2 P k1 k2 W (HRA1.out.below h) (HRB1.out.below h)
      have hS2 := fun W (h : Below XA.heap.size XA W) => sameInts_any A1 C3 P k1 k3 W (HRA1.out.below h) (HRC1.out.below h)
      have hS3 := fun W (h : Below W8.heap.size W8 W) (h2 : Below w.heap.size w W) => sameInts_any D4 An ln k4 cn W (hrD.below h) (HRR.out W h2)
      rw [← HNN.out] at hS3
      clear hb8 hcell hM5 hrD
      go_wp2_with (go_at_call 9; go_loud (refine (hS1 _ (by repeat (first | exact Below.refl _ _ | assumption | apply below_drew | apply below_drewn))).mono ?_))
      first
        | (intro e W9 he hb9; subst he)
        | rintro e W9 ⟨rfl, hb9⟩
      have HB9 : Below XA.heap.size XA W9 := below_then HB8 hb9
      have HC9 : Below W8.heap.size W8 W9 := by first | exact hb9 | exact below_then (by repeat (first | exact Below.refl _ _ | assumption | apply below_drew | apply below_drewn)) hb9
      clear hb9 hS1 HB8
      go_wp2_with (go_at_call 9; go_loud (refine (hS2 _ (by repeat (first | exact Below.refl _ _ | assumption | apply below_drew | apply below_drewn))).mono ?_))
      first
        | (intro e WA he hbA; subst he)
        | rintro e WA ⟨rfl, hbA⟩
      have HB10 : Below XA.heap.size XA WA := below_then HB9 hbA
      have HC10 : Below W8.heap.size W8 WA := below_then HC9 hbA
      have HW10 : Below w.heap.size w WA := below_then HXA HB10
      have hcell := HCN.out WA HW10
      clear hbA hS2 HB9 HC9
      go_wp2_with (go_at_call 9; go_loud (refine (hS3 _ (by repeat (first | exact Below.refl _ _ | assumption | apply below_drew | apply below_drewn)) (by repeat (first | exact Below.refl _ _ | assumption | apply below_drew | apply below_drewn))).mono ?_))
      first
        | (intro e WB he hbB; subst he)
        | rintro e WB ⟨rfl, hbB⟩
      have HW11 : Below w.heap.size w WB := below_then HW10 hbB
      clear hbB hS3 hcell
      go_wp2
      go_ret
      exact ⟨by simp, HW11⟩
    · go_simp
      refine hK.out _ _ (HCN.out _ (below_more HXY1 _)) (fun hHeld => ?_)
      clear hHeld hK K
      try simp only [Act.put, List.setIfInBounds_toArray, List.set_cons_zero, List.set_cons_succ]
      refine name_world (F := fun X => Below w.heap.size w X ∧ Below Y0.heap.size Y0 X ∧ X.cell? ⟨Y1.heap.size, 0, none⟩ = some (.slice An nn cn) ∧ X.ownsRow Y0.heap.size 24 1 (.slice (some ⟨gE, 0, none⟩) 0 0) 0 [] ∧ (Value.slice (some ⟨gE, 0, none⟩) 0 0).ownBlock ≠ some Y1.heap.size) ⟨below_more HXY1 _, below_more HBY1 _, cell_new Y1 _ _, hEY1.alloc _, fun e => by have := (hEY1.lt _ e).2; omega⟩ (fun Y2 hF => ?_)
      obtain ⟨HXY2, HBY2, h7Y2, hEY2, hnY2⟩ := hF
      have hHeld : (fun WW : World => WW.cell? (ad0.add n) = some (.slice An nn cn)) Y2 := HCN.out _ HXY2
      obtain ⟨g7, hgY1⟩ : ∃ g, g = Y1.heap.size := ⟨_, rfl⟩
      simp only [← hgY1] at h7Y2 hnY2 ⊢
      clear hgY1
      clear HXY1 HBY1
      clear hEY1
      refine one_step (i := 2) (by kernel_rfl) rfl (fun K hK => ?_)
      refine of_if (by rfl) ?_
      refine append_rows (.tmp 57) (.tmp 58) rfl Y0.heap.size _ 0 [] rfl hEY2 ad9 ts.length c9 rfl ts rfl (HT9.out Y2 HBY2) (by have := HTL.out; omega) HBY2.size ?_
      intro v2 Z hT0 hb0 hg0
      have HXZ : Below w.heap.size w Z := HXY2.trans (hb0.mono HY0)
      have HBZ : Below Y0.heap.size Y0 Z := HBY2.trans hb0
      have h7Z : Z.cell? ⟨g7, 0, none⟩ = some (.slice An nn cn) := (World.cell?_of_block (hg0.block _ (World.block_lt_of_cell? _ _ h7Y2) (fun e => hnY2 e.symm))).trans h7Y2
      refine hK.out _ _ (HCN.out _ HXZ) (fun hHeld => ?_)
      clear hHeld hK K
      try simp only [Act.put, List.setIfInBounds_toArray, List.set_cons_zero, List.set_cons_succ]
      refine name_world (F := fun X => Below w.heap.size w X ∧ Below Y0.heap.size Y0 X ∧ X.ownsRow Y0.heap.size 24 1 v2 (0 + ts.length) ([] ++ rowCells ts) ∧ X.cell? ⟨g7, 0, none⟩ = some (.slice An nn cn)) ⟨HXZ, HBZ, hT0, h7Z⟩ (fun Y3 hF => ?_)
      obtain ⟨HXY3, HBY3, hTY3, h7Y3⟩ := hF
      have hHeld : (fun WW : World => WW.cell? (ad0.add n) = some (.slice An nn cn)) Y3 := HCN.out _ HXY3
      clear HXY2 HBY2
      clear hEY2 h7Y2 hnY2
      clear hT0 hb0 hg0 HXZ HBZ h7Z
      refine one_step (i := 8) (by kernel_rfl) rfl (fun K hK => ?_)
      refine of_if (by rfl) ?_
      refine append_rows (.tmp 59) (.tmp 64) rfl Y0.heap.size _ _ _ rfl hTY3 ⟨g7, 0, none⟩ 1 1 rfl [⟨An, ln, cn⟩] rfl (fun j hj => ?_) (by have := HTL.out; omega) HBY3.size ?_
      · obtain rfl : j = 0 := by simpa using hj
        have hz := h7Y3
        rw [HNN.out] at hz
        rw [addr_none]
        exact hz
      intro v8 Z8 hT8 hb8 hg8
      have HX8 : Below w.heap.size w Z8 := HXY3.trans (hb8.mono HY0)
      have HB8 : Below Y0.heap.size Y0 Z8 := HBY3.trans hb8
      have hT8b : Z8.ownsRow Y0.heap.size 24 1 v8 t3.length (rowCells t3) := by
        have e1 : t3.length = 0 + ts.length + 1 := by rw [HT3.out]; simp
        have e2 : rowCells t3 = [] ++ rowCells ts ++ rowCells [⟨An, ln, cn⟩] := by rw [HT3.out]; simp [rowCells]
        rw [e1, e2]; exact hT8
      obtain ⟨A8, c8, rfl, hr8⟩ := own_rowsL hT8b (fun r hr => (HRS.out.below HX8).each r (HTM3.out r hr)) (fun r hr => HRS.out.cap r (HTM3.out r hr))
      clear hT8 hT8b hb8 hg8
      refine hK.out _ _ (HCN.out _ HX8) (fun hHeld => ?_)
      clear hHeld hK K
      try simp only [Act.put, List.setIfInBounds_toArray, List.set_cons_zero, List.set_cons_succ]
      refine name_world (F := fun X => Below w.heap.size w X ∧ Below Y0.heap.size Y0 X ∧ ReadsL X A8 t3) ⟨HX8, HB8, hr8⟩ (fun X8 hF => ?_)
      obtain ⟨HX9, HB9, hr9⟩ := hF
      have hHeld : (fun WW : World => WW.cell? (ad0.add n) = some (.slice An nn cn)) X8 := HCN.out _ HX9
      clear HX8 HB8 hr8 HXY3 HBY3 hTY3 h7Y3
      refine one_step (i := 9) (by kernel_rfl) rfl (fun K hK => ?_)
      have hM3 := meet_reads A8 t3 c8 X8 hr9 HS3.out
      rw [HE3.out.1, HE3.out.2] at hM3
      go_simp
      go_at_call 7
      go_loud (refine hM3.mono ?_)
      rintro e Z9 ⟨C3, k3, rfl, hrC, -, hb9⟩
      have HXZ9 : Below w.heap.size w Z9 := below_then HX9 hb9
      have HBZ9 : Below Y0.heap.size Y0 Z9 := below_then HB9 hb9
      clear hM3 hb9
      refine hK.out _ _ (HCN.out _ HXZ9) (fun hHeld => ?_)
      clear hHeld hK K
      try simp only [Act.put, List.setIfInBounds_toArray, List.set_cons_zero, List.set_cons_succ]
      refine name_world (F := fun X => Below w.heap.size w X ∧ Below Y0.heap.size Y0 X ∧ ReadsI X C3 P) ⟨HXZ9, HBZ9, hrC⟩ (fun XA hF => ?_)
      obtain ⟨HXA, HBA, hrCA⟩ := hF
      have hHeld : (fun WW : World => WW.cell? (ad0.add n) = some (.slice An nn cn)) XA := HCN.out _ HXA
      clear HXZ9 HBZ9 hrC HX9 HB9 hr9
      refine take_in (i := 10) (v := ?v10z18) rfl (by kernel_rfl) (by kernel_rfl) (by kernel_rfl) (fun _ _ _ h => h) (by rfl) ?hy10z18 (by assumption) ?_
      case hy10z18 => intro WW hSw; (try dsimp only at hSw); go_simp; try with_reducible rfl
      try simp only [Act.put, List.setIfInBounds_toArray, List.set_cons_zero, List.set_cons_succ]
      refine take_in (i := 11) (v := ?v11z19) rfl (by kernel_rfl) (by kernel_rfl) (by kernel_rfl) (fun _ _ _ h => h) (by rfl) ?hy11z19 (by assumption) ?_
      case hy11z19 => intro WW hSw; (try dsimp only at hSw); go_simp; try with_reducible rfl
      try simp only [Act.put, List.setIfInBounds_toArray, List.set_cons_zero, List.set_cons_succ]
      refine take_in (i := 12) (v := ?v12z20) rfl (by kernel_rfl) (by kernel_rfl) (by kernel_rfl) (fun _ _ _ h => h) (by rfl) ?hy12z20 (by assumption) ?_
      case hy12z20 => intro WW hSw; (try dsimp only at hSw); go_simp; try with_reducible rfl
      try simp only [Act.put, List.setIfInBounds_toArray, List.set_cons_zero, List.set_cons_succ]
      refine take_in (i := 13) (v := ?v13z21) rfl (by kernel_rfl) (by kernel_rfl) (by kernel_rfl) (fun _ _ _ h => h) (by rfl) ?hy13z21 (by assumption) ?_
      case hy13z21 => intro WW hSw; (try dsimp only at hSw); go_simp; try with_reducible rfl
      try simp only [Act.put, List.setIfInBounds_toArray, List.set_cons_zero, List.set_cons_succ]
      refine take_in (i := 14) (v := ?v14z22) rfl (by kernel_rfl) (by kernel_rfl) (by kernel_rfl) (fun _ _ _ h => h) (by rfl) ?hy14z22 (by assumption) ?_
      case hy14z22 => intro WW hSw; (try dsimp only at hSw); go_simp; try with_reducible rfl
      try simp only [Act.put, List.setIfInBounds_toArray, List.set_cons_zero, List.set_cons_succ]
      refine wpAnyH_done (by kernel_rfl) ?_ _
      have HRA1 := Aside0.mk (HRA0.out.below HBA)
      have HRB1 := Aside0.mk (HRB0.out.below HBA)
      have HRC1 := Aside0.mk hrCA
      have hcell := HCN.out XA HXA
      have hM5 := fun Y (h : Below XA.heap.size XA Y) => HM4.out Y (below_then HXA h)
      clear hrCA HBA HRA0 HRB0
      go_wp2_with (go_at_call 7; go_loud (refine (hM5 _ (by repeat (first | exact Below.refl _ _ | assumption | apply below_drew | apply below_drewn))).mono ?_))
      first
        | (intro e W8 D4 k4 he hrD hb8; subst he)
        | rintro e W8 ⟨D4, k4, rfl, hrD, hb8⟩
      have HB8 : Below XA.heap.size XA W8 := below_then (by repeat (first | exact Below.refl _ _ | assumption | apply below_drew | apply below_drewn)) hb8
      have hS1 := fun W (h : Below XA.heap.size XA W) => sameInts_any A1 B2 P k1 k2 W (HRA1.out.below h) (HRB1.out.below h)
      have hS2 := fun W (h : Below XA.heap.size XA W) => sameInts_any A1 C3 P k1 k3 W (HRA1.out.below h) (HRC1.out.below h)
      have hS3 := fun W (h : Below W8.heap.size W8 W) (h2 : Below w.heap.size w W) => sameInts_any D4 An ln k4 cn W (hrD.below h) (HRR.out W h2)
      rw [← HNN.out] at hS3
      clear hb8 hcell hM5 hrD
      go_wp2_with (go_at_call 9; go_loud (refine (hS1 _ (by repeat (first | exact Below.refl _ _ | assumption | apply below_drew | apply below_drewn))).mono ?_))
      first
        | (intro e W9 he hb9; subst he)
        | rintro e W9 ⟨rfl, hb9⟩
      have HB9 : Below XA.heap.size XA W9 := below_then HB8 hb9
      have HC9 : Below W8.heap.size W8 W9 := by first | exact hb9 | exact below_then (by repeat (first | exact Below.refl _ _ | assumption | apply below_drew | apply below_drewn)) hb9
      clear hb9 hS1 HB8
      go_wp2_with (go_at_call 9; go_loud (refine (hS2 _ (by repeat (first | exact Below.refl _ _ | assumption | apply below_drew | apply below_drewn))).mono ?_))
      first
        | (intro e WA he hbA; subst he)
        | rintro e WA ⟨rfl, hbA⟩
      have HB10 : Below XA.heap.size XA WA := below_then HB9 hbA
      have HC10 : Below W8.heap.size W8 WA := below_then HC9 hbA
      have HW10 : Below w.heap.size w WA := below_then HXA HB10
      have hcell := HCN.out WA HW10
      clear hbA hS2 HB9 HC9
      go_wp2_with (go_at_call 9; go_loud (refine (hS3 _ (by repeat (first | exact Below.refl _ _ | assumption | apply below_drew | apply below_drewn)) (by repeat (first | exact Below.refl _ _ | assumption | apply below_drew | apply below_drewn))).mono ?_))
      first
        | (intro e WB he hbB; subst he)
        | rintro e WB ⟨rfl, hbB⟩
      have HW11 : Below w.heap.size w WB := below_then HW10 hbB
      clear hbB hS3 hcell
      go_wp2
      go_ret
      exact ⟨by simp, HW11⟩
  · go_simp
    refine hK.out _ _ (HCN.out _ (below_more HXY0 _)) (fun hHeld => ?_)
    clear hHeld hK K
    try simp only [Act.put, List.setIfInBounds_toArray, List.set_cons_zero, List.set_cons_succ]
    refine name_world (F := fun X => Below w.heap.size w X ∧ Below Y0.heap.size Y0 X ∧ X.cell? ⟨Y0.heap.size, 0, none⟩ = some (.slice An nn cn)) ⟨below_more HXY0 _, below_more HBY0 _, cell_new Y0 _ _⟩ (fun Y1 hF => ?_)
    obtain ⟨HXY1, HBY1, h7Y1⟩ := hF
    have hHeld : (fun WW : World => WW.cell? (ad0.add n) = some (.slice An nn cn)) Y1 := HCN.out _ HXY1
    obtain ⟨g7, hgY0⟩ : ∃ g, g = Y0.heap.size := ⟨_, rfl⟩
    simp only [← hgY0] at h7Y1 ⊢
    clear hgY0
    refine one_step (i := 0) (by kernel_rfl) rfl (fun K hK => ?_)
    go_simp
    refine hK.out _ _ (HCN.out _ (below_more HXY1 _)) (fun hHeld => ?_)
    clear hHeld hK K
    try simp only [Act.put, List.setIfInBounds_toArray, List.set_cons_zero, List.set_cons_succ]
    refine name_world (F := fun X => Below w.heap.size w X ∧ Below Y0.heap.size Y0 X ∧ X.ownsRow Y0.heap.size 24 1 (.slice (some ⟨Y1.heap.size, 0, none⟩) 0 0) 0 [] ∧ X.cell? ⟨g7, 0, none⟩ = some (.slice An nn cn) ∧ (Value.slice (some ⟨Y1.heap.size, 0, none⟩) 0 0).ownBlock ≠ some g7) ⟨below_more HXY1 _, below_more HBY1 _, own_empty Y1 _ HBY1.size, cell_alloc h7Y1 _, fun e => by have h : Y1.heap.size = g7 := Option.some.inj e; have := World.block_lt_of_cell? _ _ h7Y1; simp only at this; omega⟩ (fun Y2 hF => ?_)
    obtain ⟨HXY2, HBY2, hEY2, h7Y2, hnY2⟩ := hF
    have hHeld : (fun WW : World => WW.cell? (ad0.add n) = some (.slice An nn cn)) Y2 := HCN.out _ HXY2
    obtain ⟨gE, hgY1⟩ : ∃ g, g = Y1.heap.size := ⟨_, rfl⟩
    have hE_ : Y2.ownsRow Y0.heap.size 24 1 (.slice (some ⟨gE, 0, none⟩) 0 0) 0 [] := by rw [hgY1]; exact hEY2
    clear hEY2
    have hEY2 := hE_
    clear hE_
    simp only [← hgY1] at hnY2 ⊢
    clear hgY1
    clear HXY1 HBY1
    clear h7Y1
    refine one_step (i := 2) (by kernel_rfl) rfl (fun K hK => ?_)
    refine of_if (by rfl) ?_
    refine append_rows (.tmp 57) (.tmp 58) rfl Y0.heap.size _ 0 [] rfl hEY2 ad9 ts.length c9 rfl ts rfl (HT9.out Y2 HBY2) (by have := HTL.out; omega) HBY2.size ?_
    intro v2 Z hT0 hb0 hg0
    have HXZ : Below w.heap.size w Z := HXY2.trans (hb0.mono HY0)
    have HBZ : Below Y0.heap.size Y0 Z := HBY2.trans hb0
    have h7Z : Z.cell? ⟨g7, 0, none⟩ = some (.slice An nn cn) := (World.cell?_of_block (hg0.block _ (World.block_lt_of_cell? _ _ h7Y2) (fun e => hnY2 e.symm))).trans h7Y2
    refine hK.out _ _ (HCN.out _ HXZ) (fun hHeld => ?_)
    clear hHeld hK K
    try simp only [Act.put, List.setIfInBounds_toArray, List.set_cons_zero, List.set_cons_succ]
    refine name_world (F := fun X => Below w.heap.size w X ∧ Below Y0.heap.size Y0 X ∧ X.ownsRow Y0.heap.size 24 1 v2 (0 + ts.length) ([] ++ rowCells ts) ∧ X.cell? ⟨g7, 0, none⟩ = some (.slice An nn cn)) ⟨HXZ, HBZ, hT0, h7Z⟩ (fun Y3 hF => ?_)
    obtain ⟨HXY3, HBY3, hTY3, h7Y3⟩ := hF
    have hHeld : (fun WW : World => WW.cell? (ad0.add n) = some (.slice An nn cn)) Y3 := HCN.out _ HXY3
    clear HXY2 HBY2
    clear hEY2 h7Y2 hnY2
    clear hT0 hb0 hg0 HXZ HBZ h7Z
    refine one_step (i := 8) (by kernel_rfl) rfl (fun K hK => ?_)
    refine of_if (by rfl) ?_
    refine append_rows (.tmp 59) (.tmp 64) rfl Y0.heap.size _ _ _ rfl hTY3 ⟨g7, 0, none⟩ 1 1 rfl [⟨An, ln, cn⟩] rfl (fun j hj => ?_) (by have := HTL.out; omega) HBY3.size ?_
    · obtain rfl : j = 0 := by simpa using hj
      have hz := h7Y3
      rw [HNN.out] at hz
      rw [addr_none]
      exact hz
    intro v8 Z8 hT8 hb8 hg8
    have HX8 : Below w.heap.size w Z8 := HXY3.trans (hb8.mono HY0)
    have HB8 : Below Y0.heap.size Y0 Z8 := HBY3.trans hb8
    have hT8b : Z8.ownsRow Y0.heap.size 24 1 v8 t3.length (rowCells t3) := by
      have e1 : t3.length = 0 + ts.length + 1 := by rw [HT3.out]; simp
      have e2 : rowCells t3 = [] ++ rowCells ts ++ rowCells [⟨An, ln, cn⟩] := by rw [HT3.out]; simp [rowCells]
      rw [e1, e2]; exact hT8
    obtain ⟨A8, c8, rfl, hr8⟩ := own_rowsL hT8b (fun r hr => (HRS.out.below HX8).each r (HTM3.out r hr)) (fun r hr => HRS.out.cap r (HTM3.out r hr))
    clear hT8 hT8b hb8 hg8
    refine hK.out _ _ (HCN.out _ HX8) (fun hHeld => ?_)
    clear hHeld hK K
    try simp only [Act.put, List.setIfInBounds_toArray, List.set_cons_zero, List.set_cons_succ]
    refine name_world (F := fun X => Below w.heap.size w X ∧ Below Y0.heap.size Y0 X ∧ ReadsL X A8 t3) ⟨HX8, HB8, hr8⟩ (fun X8 hF => ?_)
    obtain ⟨HX9, HB9, hr9⟩ := hF
    have hHeld : (fun WW : World => WW.cell? (ad0.add n) = some (.slice An nn cn)) X8 := HCN.out _ HX9
    clear HX8 HB8 hr8 HXY3 HBY3 hTY3 h7Y3
    refine one_step (i := 9) (by kernel_rfl) rfl (fun K hK => ?_)
    have hM3 := meet_reads A8 t3 c8 X8 hr9 HS3.out
    rw [HE3.out.1, HE3.out.2] at hM3
    go_simp
    go_at_call 7
    go_loud (refine hM3.mono ?_)
    rintro e Z9 ⟨C3, k3, rfl, hrC, -, hb9⟩
    have HXZ9 : Below w.heap.size w Z9 := below_then HX9 hb9
    have HBZ9 : Below Y0.heap.size Y0 Z9 := below_then HB9 hb9
    clear hM3 hb9
    refine hK.out _ _ (HCN.out _ HXZ9) (fun hHeld => ?_)
    clear hHeld hK K
    try simp only [Act.put, List.setIfInBounds_toArray, List.set_cons_zero, List.set_cons_succ]
    refine name_world (F := fun X => Below w.heap.size w X ∧ Below Y0.heap.size Y0 X ∧ ReadsI X C3 P) ⟨HXZ9, HBZ9, hrC⟩ (fun XA hF => ?_)
    obtain ⟨HXA, HBA, hrCA⟩ := hF
    have hHeld : (fun WW : World => WW.cell? (ad0.add n) = some (.slice An nn cn)) XA := HCN.out _ HXA
    clear HXZ9 HBZ9 hrC HX9 HB9 hr9
    refine take_in (i := 10) (v := ?v10z23) rfl (by kernel_rfl) (by kernel_rfl) (by kernel_rfl) (fun _ _ _ h => h) (by rfl) ?hy10z23 (by assumption) ?_
    case hy10z23 => intro WW hSw; (try dsimp only at hSw); go_simp; try with_reducible rfl
    try simp only [Act.put, List.setIfInBounds_toArray, List.set_cons_zero, List.set_cons_succ]
    refine take_in (i := 11) (v := ?v11z24) rfl (by kernel_rfl) (by kernel_rfl) (by kernel_rfl) (fun _ _ _ h => h) (by rfl) ?hy11z24 (by assumption) ?_
    case hy11z24 => intro WW hSw; (try dsimp only at hSw); go_simp; try with_reducible rfl
    try simp only [Act.put, List.setIfInBounds_toArray, List.set_cons_zero, List.set_cons_succ]
    refine take_in (i := 12) (v := ?v12z25) rfl (by kernel_rfl) (by kernel_rfl) (by kernel_rfl) (fun _ _ _ h => h) (by rfl) ?hy12z25 (by assumption) ?_
    case hy12z25 => intro WW hSw; (try dsimp only at hSw); go_simp; try with_reducible rfl
    try simp only [Act.put, List.setIfInBounds_toArray, List.set_cons_zero, List.set_cons_succ]
    refine take_in (i := 13) (v := ?v13z26) rfl (by kernel_rfl) (by kernel_rfl) (by kernel_rfl) (fun _ _ _ h => h) (by rfl) ?hy13z26 (by assumption) ?_
    case hy13z26 => intro WW hSw; (try dsimp only at hSw); go_simp; try with_reducible rfl
    try simp only [Act.put, List.setIfInBounds_toArray, List.set_cons_zero, List.set_cons_succ]
    refine take_in (i := 14) (v := ?v14z27) rfl (by kernel_rfl) (by kernel_rfl) (by kernel_rfl) (fun _ _ _ h => h) (by rfl) ?hy14z27 (by assumption) ?_
    case hy14z27 => intro WW hSw; (try dsimp only at hSw); go_simp; try with_reducible rfl
    try simp only [Act.put, List.setIfInBounds_toArray, List.set_cons_zero, List.set_cons_succ]
    refine wpAnyH_done (by kernel_rfl) ?_ _
    have HRA1 := Aside0.mk (HRA0.out.below HBA)
    have HRB1 := Aside0.mk (HRB0.out.below HBA)
    have HRC1 := Aside0.mk hrCA
    have hcell := HCN.out XA HXA
    have hM5 := fun Y (h : Below XA.heap.size XA Y) => HM4.out Y (below_then HXA h)
    clear hrCA HBA HRA0 HRB0
    go_wp2_with (go_at_call 7; go_loud (refine (hM5 _ (by repeat (first | exact Below.refl _ _ | assumption | apply below_drew | apply below_drewn))).mono ?_))
    first
      | (intro e W8 D4 k4 he hrD hb8; subst he)
      | rintro e W8 ⟨D4, k4, rfl, hrD, hb8⟩
    have HB8 : Below XA.heap.size XA W8 := below_then (by repeat (first | exact Below.refl _ _ | assumption | apply below_drew | apply below_drewn)) hb8
    have hS1 := fun W (h : Below XA.heap.size XA W) => sameInts_any A1 B2 P k1 k2 W (HRA1.out.below h) (HRB1.out.below h)
    have hS2 := fun W (h : Below XA.heap.size XA W) => sameInts_any A1 C3 P k1 k3 W (HRA1.out.below h) (HRC1.out.below h)
    have hS3 := fun W (h : Below W8.heap.size W8 W) (h2 : Below w.heap.size w W) => sameInts_any D4 An ln k4 cn W (hrD.below h) (HRR.out W h2)
    rw [← HNN.out] at hS3
    clear hb8 hcell hM5 hrD
    go_wp2_with (go_at_call 9; go_loud (refine (hS1 _ (by repeat (first | exact Below.refl _ _ | assumption | apply below_drew | apply below_drewn))).mono ?_))
    first
      | (intro e W9 he hb9; subst he)
      | rintro e W9 ⟨rfl, hb9⟩
    have HB9 : Below XA.heap.size XA W9 := below_then HB8 hb9
    have HC9 : Below W8.heap.size W8 W9 := by first | exact hb9 | exact below_then (by repeat (first | exact Below.refl _ _ | assumption | apply below_drew | apply below_drewn)) hb9
    clear hb9 hS1 HB8
    go_wp2_with (go_at_call 9; go_loud (refine (hS2 _ (by repeat (first | exact Below.refl _ _ | assumption | apply below_drew | apply below_drewn))).mono ?_))
    first
      | (intro e WA he hbA; subst he)
      | rintro e WA ⟨rfl, hbA⟩
    have HB10 : Below XA.heap.size XA WA := below_then HB9 hbA
    have HC10 : Below W8.heap.size W8 WA := below_then HC9 hbA
    have HW10 : Below w.heap.size w WA := below_then HXA HB10
    have hcell := HCN.out WA HW10
    clear hbA hS2 HB9 HC9
    go_wp2_with (go_at_call 9; go_loud (refine (hS3 _ (by repeat (first | exact Below.refl _ _ | assumption | apply below_drew | apply below_drewn)) (by repeat (first | exact Below.refl _ _ | assumption | apply below_drew | apply below_drewn))).mono ?_))
    first
      | (intro e WB he hbB; subst he)
      | rintro e WB ⟨rfl, hbB⟩
    have HW11 : Below w.heap.size w WB := below_then HW10 hbB
    clear hbB hS3 hcell
    go_wp2
    go_ret
    exact ⟨by simp, HW11⟩
end Go.Proofs.Ytgaiedcjcoebeaa
