/- Values; the reference's SameRow of rows that are alike. -/
import Derived.Test.YtbdbcbpcekpcoaaDoorCvEach
import Derived.Test.YtbdbcbpcekpcoaaDoorRegS
set_option linter.unusedVariables false
set_option linter.unusedSimpArgs false
namespace Go.Proofs.YtbdbcbpcekpcoaaDoor
open Go.RowKit Go.Maps

set_option maxRecDepth 100000 in
set_option maxHeartbeats 3200000 in
theorem values_any (k : Int) (hk : 1 ≤ k ∧ k ≤ 6) (F : Nat → Prop) (b : Nat) (S : VS) (vs : List V5) (w : World) (hv : VecIs w F b S) (hR : Rep k S vs) (hwf : WF S) (hf : ∀ v ∈ vs, fitsV k v = true) (hnum : ∀ v ∈ vs, -9223372036854775808 ≤ v.n ∧ v.n ≤ 9223372036854775807) (hN : vs.length ≤ 100000000000) :
    Calls Tryd.prog 28 #[.pointer (some ⟨b, 0, none⟩)] w fun e w' => ∃ rv us, e = .returned rv ∧ OwnV w' w.heap.size rv us ∧ EqR us vs ∧ (∀ u ∈ us, ∀ a, u.A = some a → w.heap.size ≤ a.block) ∧ Below w.heap.size w w' := by
  have hE := each_any k hk F b S vs w hv hR hwf hf hnum hN
  have hlen : S.nl.length = vs.length := by rw [hR.nulls, List.length_map]
  obtain ⟨nv, bv, iv, dv, hvv, m, hV⟩ := hv
  have hc := hV.box.cells
  have hf2 := hV.box.free
  rw [hlen] at hc
  generalize (vs.length : Int) = N at hc hE
  clear hV hR hwf hf hnum hN hlen
  go_enter Tryd.func28, Tryd.ntmps28
  go_wp2_with (go_at_call 36; go_loud (refine hE.mono ?_))
  rintro e W3 ⟨rv, us, rfl, hO, hq, hlw, hb⟩
  go_wp2
  go_ret
  exact ⟨_, us, rfl, hO, hq, hlw, hb⟩
theorem sameB_eq {u v : V5} (h : Eq5 u v) : sameB u.k u.b u.n u.s u.p v.k v.b v.n v.s v.p = true := by
  obtain ⟨h1, h2, h3, h4, h5⟩ := h
  simp [sameB, h1, h2, h3, h4, h5]
set_option maxRecDepth 100000 in
set_option maxHeartbeats 3200000 in
theorem samerow_any (A : Option Addr) (us : List V5) (c : Nat) (B : Option Addr) (vs : List V5) (d : Nat) (w : World) (hr : ReadsV w A us) (hr2 : ReadsV w B vs) (hq : EqR us vs) :
    Calls Tryd.prog 27 #[.slice A us.length c, .slice B vs.length d] w fun e w' => e = .returned (.bool true) ∧ Below w.heap.size w w' := by
  have hlen := hr.len
  obtain ⟨m, hm⟩ : ∃ m, m = us.length := ⟨_, rfl⟩
  have HM := Aside0.mk (And.intro hm (hm.trans hq.1))
  rw [← hq.1, ← hm]
  rw [← hm] at hlen
  have HR := Aside0.mk hr
  have HR2 := Aside0.mk hr2
  have HQ := Aside0.mk hq
  have hmm : ((m : Int) != (m : Int)) = false := by simp
  have hN9 : (m : Int) ≤ 9223372036854775807 := by omega
  clear hr hr2 hq hm
  go_enter Tryd.func27, Tryd.ntmps27
  go_wp2
  go_loopg [5] (m + 1) (fun gg s5 wr => ∃ j : Nat, j ≤ m ∧ m < gg + j ∧ s5 = .int .i64 j ∧ Below w.heap.size w wr)
  case atStart => exact ⟨0, by omega, by omega, rfl, Below.refl _ _⟩
  case round =>
    obtain ⟨j, hj, hg, rfl, HB⟩ := hrel
    have hj0 : (0 : Int) ≤ (j : Int) := by omega
    by_cases hlt : j < m
    · have hlti : (j : Int) < (m : Int) := by omega
      obtain ⟨ada, rfl, hx⟩ := (HR.out.below HB).row j (by have := HM.out.1; omega)
      obtain ⟨adb, rfl, hy⟩ := (HR2.out.below HB).row j (by have := HM.out.2; omega)
      have he := HQ.out.2 j (by have := HM.out.2; omega)
      have hpx := HR.out.path _ (by rw [List.getD_eq_getElem?_getD, List.getElem?_eq_getElem (by have := HM.out.1; omega)]; exact List.getElem_mem _ : us.getD j V5.zero ∈ us)
      have hpy := HR2.out.path _ (by rw [List.getD_eq_getElem?_getD, List.getElem?_eq_getElem (by have := HM.out.2; omega)]; exact List.getElem_mem _ : vs.getD j V5.zero ∈ vs)
      generalize us.getD j V5.zero = u at hx he hpx
      generalize vs.getD j V5.zero = v at hy he hpy
      have hsb := sameB_eq he
      obtain ⟨xk, xn, xb, xs, xA, xp, xc⟩ := u
      obtain ⟨yk, yn, yb, ys, yA, yp, yc⟩ := v
      simp only at hpx hpy hsb
      obtain ⟨W0, hW0⟩ : ∃ W0, W0 = wr := ⟨_, rfl⟩
      have hb0 : Below W0.heap.size W0 wr := by rw [hW0]; exact Below.refl _ _
      have HX : Aside0 (∀ WW, Below W0.heap.size W0 WW → WW.cell? (ada.add (j * 5)) = some (.int .i64 xk) ∧ WW.cell? ⟨(ada.add (j * 5)).block, (ada.add (j * 5)).off + 1, none⟩ = some (.bool xb) ∧ WW.cell? ⟨(ada.add (j * 5)).block, (ada.add (j * 5)).off + 2, none⟩ = some (.int .i64 xn) ∧ WW.cell? ⟨(ada.add (j * 5)).block, (ada.add (j * 5)).off + 3, none⟩ = some (.string xs) ∧ WW.cell? ⟨(ada.add (j * 5)).block, (ada.add (j * 5)).off + 4, none⟩ = some (.slice xA xp.length xc)) := ⟨fun WW h => by
        subst hW0
        exact ⟨(h.cell hx.lt).trans hx.c0, (h.cell (p := ⟨(ada.add (j * 5)).block, (ada.add (j * 5)).off + 1, none⟩) hx.lt).trans hx.c1, (h.cell (p := ⟨(ada.add (j * 5)).block, (ada.add (j * 5)).off + 2, none⟩) hx.lt).trans hx.c2, (h.cell (p := ⟨(ada.add (j * 5)).block, (ada.add (j * 5)).off + 3, none⟩) hx.lt).trans hx.c3, (h.cell (p := ⟨(ada.add (j * 5)).block, (ada.add (j * 5)).off + 4, none⟩) hx.lt).trans hx.c4⟩⟩
      have HY : Aside0 (∀ WW, Below W0.heap.size W0 WW → WW.cell? (adb.add (j * 5)) = some (.int .i64 yk) ∧ WW.cell? ⟨(adb.add (j * 5)).block, (adb.add (j * 5)).off + 1, none⟩ = some (.bool yb) ∧ WW.cell? ⟨(adb.add (j * 5)).block, (adb.add (j * 5)).off + 2, none⟩ = some (.int .i64 yn) ∧ WW.cell? ⟨(adb.add (j * 5)).block, (adb.add (j * 5)).off + 3, none⟩ = some (.string ys) ∧ WW.cell? ⟨(adb.add (j * 5)).block, (adb.add (j * 5)).off + 4, none⟩ = some (.slice yA yp.length yc)) := ⟨fun WW h => by
        subst hW0
        exact ⟨(h.cell hy.lt).trans hy.c0, (h.cell (p := ⟨(adb.add (j * 5)).block, (adb.add (j * 5)).off + 1, none⟩) hy.lt).trans hy.c1, (h.cell (p := ⟨(adb.add (j * 5)).block, (adb.add (j * 5)).off + 2, none⟩) hy.lt).trans hy.c2, (h.cell (p := ⟨(adb.add (j * 5)).block, (adb.add (j * 5)).off + 3, none⟩) hy.lt).trans hy.c3, (h.cell (p := ⟨(adb.add (j * 5)).block, (adb.add (j * 5)).off + 4, none⟩) hy.lt).trans hy.c4⟩⟩
      have HSM : Aside0 (∀ WW, Below W0.heap.size W0 WW → Calls Tryd.prog 20 #[.agg #[.int .i64 xk, .bool xb, .int .i64 xn, .string xs, .slice xA xp.length xc], .agg #[.int .i64 yk, .bool yb, .int .i64 yn, .string ys, .slice yA yp.length yc]] WW fun e w' => e = .returned (.bool true) ∧ Below WW.heap.size WW w') := ⟨fun WW h => by
        subst hW0
        have hh := same_any xk xn xb xs xA xp xc yk yn yb ys yA yp yc WW (hpx.below (HB.trans (h.mono HB.size))) (hpy.below (HB.trans (h.mono HB.size)))
        rw [hsb] at hh
        exact hh⟩
      have hsx := hx.spot
      have hsy := hy.spot
      have hbx : (ada.add (j * 5)).block < wr.heap.size := hx.lt
      have hby : (adb.add (j * 5)).block < wr.heap.size := hy.lt
      have HBW : Aside0 (∀ WW, Below W0.heap.size W0 WW → Below w.heap.size w WW) := ⟨fun WW h => by subst hW0; exact below_then HB h⟩
      clear hx hy he hpx hpy hsb hW0 HB
      go_upto_region 6 with (fail)
      refine wp_region_held_drew (S := (fun WW => Below W0.heap.size W0 WW)) (by kernel_rfl) ?_ (fun hHeld => ?_)
      · (first | exact hb4 | exact hb0 | exact below_drew hb0)
      refine take_in (i := 0) (v := ?v0a) rfl (by kernel_rfl) (by kernel_rfl) (by kernel_rfl) (fun _ _ _ h => h) (by rfl) ?hy0a (by assumption) ?_
      case hy0a => intro WW hSw; (try dsimp only at hSw); go_simp; try with_reducible rfl
      try simp only [Act.put, List.setIfInBounds_toArray, List.set_cons_zero, List.set_cons_succ]
      refine take_in (i := 1) (v := ?v1a) rfl (by kernel_rfl) (by kernel_rfl) (by kernel_rfl) (fun _ _ _ h => h) (by rfl) ?hy1a (by assumption) ?_
      case hy1a => intro WW hSw; (try dsimp only at hSw); go_simp; try with_reducible rfl
      try simp only [Act.put, List.setIfInBounds_toArray, List.set_cons_zero, List.set_cons_succ]
      refine take_in (i := 2) (v := ?v2a) rfl (by kernel_rfl) (by kernel_rfl) (by kernel_rfl) (fun _ _ _ h => h) (by rfl) ?hy2a (by assumption) ?_
      case hy2a => intro WW hSw; (try dsimp only at hSw); go_simp; try with_reducible rfl
      try simp only [Act.put, List.setIfInBounds_toArray, List.set_cons_zero, List.set_cons_succ]
      refine take_in (i := 3) (v := .agg #[.int .i64 xk, .bool xb, .int .i64 xn, .string xs, .slice xA xp.length xc]) rfl (by kernel_rfl) (by kernel_rfl) (by kernel_rfl) (fun _ _ _ h => h) (by rfl) ?hy3a (by assumption) ?_
      case hy3a => intro WW hSw; obtain ⟨hk0, hk1, hk2, hk3, hk4⟩ := HX.out WW hSw; go_simp; try with_reducible rfl
      try simp only [Act.put, List.setIfInBounds_toArray, List.set_cons_zero, List.set_cons_succ]
      refine take_in (i := 4) (v := ?v4a) rfl (by kernel_rfl) (by kernel_rfl) (by kernel_rfl) (fun _ _ _ h => h) (by rfl) ?hy4a (by assumption) ?_
      case hy4a => intro WW hSw; (try dsimp only at hSw); go_simp; try with_reducible rfl
      try simp only [Act.put, List.setIfInBounds_toArray, List.set_cons_zero, List.set_cons_succ]
      refine take_in (i := 5) (v := ?v5a) rfl (by kernel_rfl) (by kernel_rfl) (by kernel_rfl) (fun _ _ _ h => h) (by rfl) ?hy5a (by assumption) ?_
      case hy5a => intro WW hSw; (try dsimp only at hSw); go_simp; try with_reducible rfl
      try simp only [Act.put, List.setIfInBounds_toArray, List.set_cons_zero, List.set_cons_succ]
      refine take_in (i := 6) (v := ?v6a) rfl (by kernel_rfl) (by kernel_rfl) (by kernel_rfl) (fun _ _ _ h => h) (by rfl) ?hy6a (by assumption) ?_
      case hy6a => intro WW hSw; (try dsimp only at hSw); go_simp; try with_reducible rfl
      try simp only [Act.put, List.setIfInBounds_toArray, List.set_cons_zero, List.set_cons_succ]
      refine take_in (i := 7) (v := .agg #[.int .i64 yk, .bool yb, .int .i64 yn, .string ys, .slice yA yp.length yc]) rfl (by kernel_rfl) (by kernel_rfl) (by kernel_rfl) (fun _ _ _ h => h) (by rfl) ?hy7a (by assumption) ?_
      case hy7a => intro WW hSw; obtain ⟨hk0, hk1, hk2, hk3, hk4⟩ := HY.out WW hSw; go_simp; try with_reducible rfl
      try simp only [Act.put, List.setIfInBounds_toArray, List.set_cons_zero, List.set_cons_succ]
      refine one_step (i := 8) (by kernel_rfl) rfl (fun K hK => ?_)
      go_simp
      go_at_call 20
      go_loud (refine (HSM.out _ (by first | exact hb0 | exact below_drew hb0)).mono ?_)
      first
        | (intro e W3 he hb3; subst he)
        | rintro e W3 ⟨rfl, hb3⟩
      have hb4 : Below W0.heap.size W0 W3 := by first | exact below_then hb0 hb3 | exact below_then (below_drew hb0) hb3
      refine hK.out _ _ ?_ (fun hHeld => ?_)
      · (first | exact hb4 | exact hb0 | exact below_drew hb0)
      clear hK K
      try simp only [Act.put, List.setIfInBounds_toArray, List.set_cons_zero, List.set_cons_succ]
      refine take_in (i := 9) (v := ?v9a) rfl (by kernel_rfl) (by kernel_rfl) (by kernel_rfl) (fun _ _ _ h => h) (by rfl) ?hy9a (by assumption) ?_
      case hy9a => intro WW hSw; (try dsimp only at hSw); go_simp; try with_reducible rfl
      try simp only [Act.put, List.setIfInBounds_toArray, List.set_cons_zero, List.set_cons_succ]
      refine wpAnyH_done (by kernel_rfl) ?_ _
      go_wp2
      go_roundg (gk - 1)
      case measure => omega
      case rel => exact ⟨j + 1, by omega, by omega, by go_num, (by first | exact HBW.out _ hb4 | exact HBW.out _ (below_drew hb4))⟩
    · obtain rfl : j = m := by omega
      have hjj : ¬ (j : Int) < (j : Int) := by omega
      go_wp2
      go_ret
      exact ⟨rfl, HB⟩
end Go.Proofs.YtbdbcbpcekpcoaaDoor
