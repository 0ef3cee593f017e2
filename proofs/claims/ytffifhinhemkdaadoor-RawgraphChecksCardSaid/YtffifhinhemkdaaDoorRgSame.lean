/- The document's Same of two graphs that say the same. -/
import Derived.Test.YtffifhinhemkdaaDoorRgZone
import Derived.Test.YtffifhinhemkdaaDoorSame
import Derived.Deep.QuietTactic
import Derived.BigQuiet
set_option linter.unusedVariables false
set_option linter.unusedSimpArgs false
namespace Go.Proofs.YtffifhinhemkdaaDoor
open Go.RowKit

theorem sameB_self (k : Int) (b : Bool) (n : Int) (s : ByteArray) (p : List Int) : sameB k b n s p k b n s p = true := by simp [sameB]
theorem below_dN {w : World} (q : Nat) : Below w.heap.size w (w.drewN q) := ⟨rfl, rfl, rfl, Nat.le_refl _, fun _ _ => rfl⟩
set_option maxRecDepth 100000 in
set_option maxHeartbeats 6400000 in
theorem sprops_eq (qs : List QD) (A B : Option Addr) (ca cb : Nat) (w : World) (hA : ReadsQ w A qs) (hB : ReadsQ w B qs) :
    Calls Tryd.prog 33 #[.slice A qs.length ca, .slice B qs.length cb] w fun e w' => e = .returned (.bool true) ∧ Below w.heap.size w w' := by
  have HA := Aside0.mk hA
  have HB := Aside0.mk hB
  obtain ⟨n, hn⟩ : ∃ n, n = qs.length := ⟨_, rfl⟩
  have hn9 : (n : Int) ≤ 9223372036854775807 := by have := hA.len; omega
  have HN := Aside0.mk hn
  rw [← hn]
  clear hn hA hB
  go_enter Tryd.func33, Tryd.ntmps33
  go_wp2
  go_loopg [5] (n + 1) (fun gg s5 wx => ∃ (j : Nat), j ≤ n ∧ n < gg + j ∧ s5 = .int .i64 j ∧ Aside0 (Below w.heap.size w wx))
  case atStart => exact ⟨0, by omega, by omega, rfl, ⟨Below.refl _ _⟩⟩
  case round =>
    obtain ⟨j, hj, hg, rfl, HW⟩ := hrel
    have hj0 : (0 : Int) ≤ (j : Int) := by omega
    by_cases hjt : j < n
    · have hjti : (j : Int) < (n : Int) := by omega
      have hjl : j < qs.length := by have := HN.out; omega
      obtain ⟨pa, hpa, ha⟩ := (HA.out.below HW.out).row j hjl
      obtain ⟨pb, hpb, hb⟩ := (HB.out.below HW.out).row j hjl
      subst hpa
      subst hpb
      have hpp := (HA.out.path _ (getD_in qs QD.zero j hjl)).below HW.out
      obtain ⟨x, hx⟩ : ∃ x, x = qs.getD j QD.zero := ⟨_, rfl⟩
      rw [← hx] at ha hb hpp
      obtain ⟨qm, ⟨qk, qb, qn, qt, qA, qp, qc⟩⟩ := x
      have HC : Aside0 (∀ X, Below wr.heap.size wr X → HoldsQ X (pa.add (j * 6)) ⟨qm, ⟨qk, qb, qn, qt, qA, qp, qc⟩⟩ ∧ HoldsQ X (pb.add (j * 6)) ⟨qm, ⟨qk, qb, qn, qt, qA, qp, qc⟩⟩) := ⟨fun X h => ⟨ha.below h, hb.below h⟩⟩
      have HS : Aside0 (∀ W, Below wr.heap.size wr W → Calls Tryd.prog 47 #[.agg #[.int .i64 qk, .bool qb, .int .i64 qn, .string qt, .slice qA qp.length qc], .agg #[.int .i64 qk, .bool qb, .int .i64 qn, .string qt, .slice qA qp.length qc]] W fun e w' => e = .returned (.bool true) ∧ Below W.heap.size W w') := ⟨fun W h => by
        have hh := same_any qk qn qb qt qA qp qc qk qn qb qt qA qp qc W (hpp.below h) (hpp.below h)
        rw [sameB_self] at hh
        exact hh⟩
      have HJ := Aside0.mk (And.intro hj hg)
      obtain ⟨GJ, hGJ⟩ : ∃ GJ, GJ = gk := ⟨_, rfl⟩
      have HGJ := Aside0.mk hGJ
      rw [← hGJ] at HJ
      clear hGJ hx hpp ha hb hj hg hjl
      go_upto_region 6 with (fail)
      refine wp_region_held_drew (S := (fun WW : World => Below wr.heap.size wr WW)) (by kernel_rfl) ?_ (fun hHeld => ?_)
      · exact (by first | exact Below.refl _ _ | exact (Below.refl _ _).drew | exact (Below.refl _ _).drew.drew)
      refine take_in (i := 0) (v := ?v0q1) rfl (by kernel_rfl) (by kernel_rfl) (by kernel_rfl) (fun _ _ _ h => h) (by rfl) ?hy0q1 (by assumption) ?_
      case hy0q1 => intro WW hSw; go_simp; try with_reducible rfl
      try simp only [Act.put, List.setIfInBounds_toArray, List.set_cons_zero, List.set_cons_succ]
      refine take_in (i := 1) (v := ?v1q2) rfl (by kernel_rfl) (by kernel_rfl) (by kernel_rfl) (fun _ _ _ h => h) (by rfl) ?hy1q2 (by assumption) ?_
      case hy1q2 => intro WW hSw; go_simp; try with_reducible rfl
      try simp only [Act.put, List.setIfInBounds_toArray, List.set_cons_zero, List.set_cons_succ]
      refine take_in (i := 2) (v := .pointer (some (pa.add (j * 6)))) rfl (by kernel_rfl) (by kernel_rfl) (by kernel_rfl) (fun _ _ _ h => h) (by rfl) ?hy2q3 (by assumption) ?_
      case hy2q3 => intro WW hSw; go_simp; try with_reducible rfl
      try simp only [Act.put, List.setIfInBounds_toArray, List.set_cons_zero, List.set_cons_succ]
      refine take_in (i := 3) (v := ?v3q4) rfl (by kernel_rfl) (by kernel_rfl) (by kernel_rfl) (fun _ _ _ h => h) (by rfl) ?hy3q4 (by assumption) ?_
      case hy3q4 => intro WW hSw; go_simp; try with_reducible rfl
      try simp only [Act.put, List.setIfInBounds_toArray, List.set_cons_zero, List.set_cons_succ]
      refine take_in (i := 4) (v := .agg #[.int .i64 qk, .bool qb, .int .i64 qn, .string qt, .slice qA qp.length qc]) rfl (by kernel_rfl) (by kernel_rfl) (by kernel_rfl) (fun _ _ _ h => h) (by rfl) ?hy4q5 (by assumption) ?_
      case hy4q5 => intro WW hSw; obtain ⟨s1, s2⟩ := HC.out WW hSw; obtain ⟨_, _, a0, a1, a2, a3, a4, a5⟩ := s1; obtain ⟨_, _, b0, b1, b2, b3, b4, b5⟩ := s2; go_simp; try with_reducible rfl
      try simp only [Act.put, List.setIfInBounds_toArray, List.set_cons_zero, List.set_cons_succ]
      refine take_in (i := 5) (v := ?v5q6) rfl (by kernel_rfl) (by kernel_rfl) (by kernel_rfl) (fun _ _ _ h => h) (by rfl) ?hy5q6 (by assumption) ?_
      case hy5q6 => intro WW hSw; go_simp; try with_reducible rfl
      try simp only [Act.put, List.setIfInBounds_toArray, List.set_cons_zero, List.set_cons_succ]
      refine take_in (i := 6) (v := ?v6q7) rfl (by kernel_rfl) (by kernel_rfl) (by kernel_rfl) (fun _ _ _ h => h) (by rfl) ?hy6q7 (by assumption) ?_
      case hy6q7 => intro WW hSw; go_simp; try with_reducible rfl
      try simp only [Act.put, List.setIfInBounds_toArray, List.set_cons_zero, List.set_cons_succ]
      refine take_in (i := 7) (v := .pointer (some (pb.add (j * 6)))) rfl (by kernel_rfl) (by kernel_rfl) (by kernel_rfl) (fun _ _ _ h => h) (by rfl) ?hy7q8 (by assumption) ?_
      case hy7q8 => intro WW hSw; go_simp; try with_reducible rfl
      try simp only [Act.put, List.setIfInBounds_toArray, List.set_cons_zero, List.set_cons_succ]
      refine take_in (i := 8) (v := ?v8q9) rfl (by kernel_rfl) (by kernel_rfl) (by kernel_rfl) (fun _ _ _ h => h) (by rfl) ?hy8q9 (by assumption) ?_
      case hy8q9 => intro WW hSw; go_simp; try with_reducible rfl
      try simp only [Act.put, List.setIfInBounds_toArray, List.set_cons_zero, List.set_cons_succ]
      refine take_in (i := 9) (v := .agg #[.int .i64 qk, .bool qb, .int .i64 qn, .string qt, .slice qA qp.length qc]) rfl (by kernel_rfl) (by kernel_rfl) (by kernel_rfl) (fun _ _ _ h => h) (by rfl) ?hy9q10 (by assumption) ?_
      case hy9q10 => intro WW hSw; obtain ⟨s1, s2⟩ := HC.out WW hSw; obtain ⟨_, _, a0, a1, a2, a3, a4, a5⟩ := s1; obtain ⟨_, _, b0, b1, b2, b3, b4, b5⟩ := s2; go_simp; try with_reducible rfl
      try simp only [Act.put, List.setIfInBounds_toArray, List.set_cons_zero, List.set_cons_succ]
      refine name_world (F := fun X => Below wr.heap.size wr X) (by assumption) (fun Z0 HZ0 => ?_)
      clear hHeld
      have hHeld : (fun WW : World => Below wr.heap.size wr WW) Z0 := HZ0
      refine one_step (i := 10) (by kernel_rfl) rfl (fun K hK => ?_)
      have hs := HS.out Z0 HZ0
      go_simp
      go_at_call 47
      go_loud (refine hs.mono ?_)
      rintro e Z1 ⟨rfl, hb5⟩
      have HZ1 := below_then HZ0 hb5
      refine hK.out _ _ HZ1 (fun hHeld => ?_)
      clear hHeld hK K
      try simp only [Act.put, List.setIfInBounds_toArray, List.set_cons_zero, List.set_cons_succ]
      refine name_world (F := fun X => Below wr.heap.size wr X) HZ1 (fun Z2 HZ2 => ?_)
      have hHeld : (fun WW : World => Below wr.heap.size wr WW) Z2 := HZ2
      clear HZ1 hb5 HZ0 hs
      refine take_in (i := 11) (v := ?v11q11) rfl (by kernel_rfl) (by kernel_rfl) (by kernel_rfl) (fun _ _ _ h => h) (by rfl) ?hy11q11 (by assumption) ?_
      case hy11q11 => intro WW hSw; go_simp; try with_reducible rfl
      try simp only [Act.put, List.setIfInBounds_toArray, List.set_cons_zero, List.set_cons_succ]
      refine wpAnyH_done (by kernel_rfl) ?_ _
      have HWZ := Aside0.mk (below_then HW.out HZ2)
      obtain ⟨h1, h2⟩ := HC.out Z2 HZ2
      obtain ⟨_, _, a0, _, _, _, _, _⟩ := h1
      obtain ⟨_, _, b0, _, _, _, _, _⟩ := h2
      have hqq : (qm.toList == qm.toList) = true := by simp
      go_upto_region 7 with (fail)
      go_quiet (fail)
      go_wp2
      go_roundg (GJ - 1)
      case measure => have := HJ.out; have := HGJ.out; omega
      case rel => exact ⟨j + 1, by have := HJ.out; omega, by have := HJ.out; omega, by first | rfl | go_num, ⟨below_then HWZ.out (by first | exact below_dN _ | exact Below.refl _ _ | exact (Below.refl _ _).drew)⟩⟩
    · have hjn : j = n := by omega
      subst j
      go_wp2
      go_ret
      exact ⟨rfl, HW.out⟩
set_option maxRecDepth 100000 in
set_option maxHeartbeats 6400000 in
theorem stypes_eq (t1 t2 : List TD) (A B : Option Addr) (ca cb : Nat) (w : World) (hA : ReadsT w A t1) (hB : ReadsT w B t2) (hc : t1.map TD.con = t2.map TD.con) :
    Calls Tryd.prog 32 #[.slice A t1.length ca, .slice B t2.length cb] w fun e w' => e = .returned (.bool true) ∧ Below w.heap.size w w' := by
  have HA := Aside0.mk hA
  have HB := Aside0.mk hB
  have hll : t2.length = t1.length := by have := congrArg List.length hc; simpa using this.symm
  obtain ⟨n, hn⟩ : ∃ n, n = t1.length := ⟨_, rfl⟩
  have hn9 : (n : Int) ≤ 9223372036854775807 := by have := hA.len; omega
  have HN := Aside0.mk (And.intro hn (hll.trans hn.symm))
  have HC := Aside0.mk hc
  rw [hll, ← hn]
  clear hn hA hB hll hc
  go_enter Tryd.func32, Tryd.ntmps32
  go_wp2
  go_loopg [5] (n + 1) (fun gg s5 wx => ∃ (j : Nat), j ≤ n ∧ n < gg + j ∧ s5 = .int .i64 j ∧ Aside0 (Below w.heap.size w wx))
  case atStart => exact ⟨0, by omega, by omega, rfl, ⟨Below.refl _ _⟩⟩
  case round =>
    obtain ⟨j, hj, hg, rfl, HW⟩ := hrel
    have hj0 : (0 : Int) ≤ (j : Int) := by omega
    by_cases hjt : j < n
    · have hjti : (j : Int) < (n : Int) := by omega
      have hjl : j < t1.length := by have := HN.out; omega
      have hjl2 : j < t2.length := by have := HN.out; omega
      obtain ⟨pa, hpa, ha⟩ := (HA.out.below HW.out).row j hjl
      obtain ⟨pb, hpb, hb⟩ := (HB.out.below HW.out).row j hjl2
      subst hpa
      subst hpb
      have hra := HA.out.props _ (getD_in t1 TD.zero j hjl)
      have hrb := HB.out.props _ (getD_in t2 TD.zero j hjl2)
      have hcc : (t1.getD j TD.zero).con = (t2.getD j TD.zero).con := by
        have h := congrArg (fun l => l[j]?) HC.out
        simp only [List.getElem?_map] at h
        rw [List.getElem?_eq_getElem hjl, List.getElem?_eq_getElem hjl2] at h
        rw [List.getD_eq_getElem?_getD, List.getD_eq_getElem?_getD, List.getElem?_eq_getElem hjl, List.getElem?_eq_getElem hjl2]
        exact Option.some.inj h
      obtain ⟨x, hx⟩ : ∃ x, x = t1.getD j TD.zero := ⟨_, rfl⟩
      obtain ⟨y, hy⟩ : ∃ y, y = t2.getD j TD.zero := ⟨_, rfl⟩
      rw [← hx] at ha hra hcc
      rw [← hy] at hb hrb hcc
      obtain ⟨xs, xA, xp, xc⟩ := x
      obtain ⟨ys, yA, yp, yc⟩ := y
      simp only [TD.con, Prod.mk.injEq] at hcc
      obtain ⟨e1, e2⟩ := hcc
      subst e1
      subst e2
      obtain ⟨_, _, a0, a1⟩ := ha
      obtain ⟨_, _, b0, b1⟩ := hb
      simp only at a0 a1 b0 b1 hra hrb
      obtain ⟨q, hq⟩ : ∃ q, q = xp.length := ⟨_, rfl⟩
      have hq9 : (q : Int) ≤ 9223372036854775807 := by have := hra.len; omega
      rw [← hq] at a1 b1
      have HRA := Aside0.mk hra
      have HRB := Aside0.mk hrb
      have HQ := Aside0.mk hq
      have hxx : (xs.toList == xs.toList) = true := by simp
      have HJ := Aside0.mk (And.intro hj hg)
      obtain ⟨GJ, hGJ⟩ : ∃ GJ, GJ = gk := ⟨_, rfl⟩
      have HGJ := Aside0.mk hGJ
      rw [← hGJ] at HJ
      have HCA : Aside0 (∀ X, Below wr.heap.size wr X → HoldsT X (pa.add (j * 2)) ⟨xs, xA, xp, xc⟩ ∧ HoldsT X (pb.add (j * 2)) ⟨xs, yA, xp, yc⟩) := ⟨fun X h => ⟨HoldsT.below ⟨by assumption, by assumption, a0, by rw [hq] at a1; exact a1⟩ h, HoldsT.below ⟨by assumption, by assumption, b0, by rw [hq] at b1; exact b1⟩ h⟩⟩
      clear hGJ hx hy hra hrb hq hj hg hjl hjl2
      go_upto_region 6 with (fail)
      go_quiet (fail)
      obtain ⟨W7, hW7⟩ : ∃ W7, W7 = wr.drewN nq := ⟨_, rfl⟩
      have HB7 : Aside0 (Below wr.heap.size wr W7) := ⟨by rw [hW7]; exact below_dN _⟩
      rw [← hW7]
      clear hW7 a0 a1 b0 b1
      go_wp2
      obtain ⟨wo, hwo⟩ : ∃ wo : World, wo = wr := ⟨_, rfl⟩
      rw [← hwo] at HCA HB7 HW
      clear hwo
      go_loopg [6] (q + 1) (fun gg s6 wx => ∃ (k : Nat), k ≤ q ∧ q < gg + k ∧ s6 = .int .i64 k ∧ Aside0 (Below wo.heap.size wo wx))
      case atStart => exact ⟨0, by omega, by omega, rfl, HB7⟩
      case round =>
        obtain ⟨k, hk, hgk, rfl, HX⟩ := hrel
        have hk0 : (0 : Int) ≤ (k : Int) := by omega
        obtain ⟨h1, h2⟩ := HCA.out wr HX.out
        obtain ⟨_, _, a0, a1⟩ := h1
        obtain ⟨_, _, b0, b1⟩ := h2
        simp only at a0 a1 b0 b1
        rw [← HQ.out] at a1 b1
        by_cases hkt : k < q
        · have hkti : (k : Int) < (q : Int) := by omega
          have hkl : k < xp.length := by have := HQ.out; omega
          have hbw := below_then HW.out HX.out
          obtain ⟨ra, hra, ha⟩ := (HRA.out.below hbw).row k hkl
          obtain ⟨rb, hrb, hb⟩ := (HRB.out.below hbw).row k hkl
          subst hra
          subst hrb
          obtain ⟨p, hp⟩ : ∃ p, p = xp.getD k PD.zero := ⟨_, rfl⟩
          rw [← hp] at ha hb
          obtain ⟨pn, pk⟩ := p
          obtain ⟨_, _, d0, d1⟩ := ha
          obtain ⟨_, _, f0, f1⟩ := hb
          simp only at d0 d1 f0 f1
          have hpn : (pn.toList == pn.toList) = true := by simp
          have HK := Aside0.mk (And.intro hk hgk)
          obtain ⟨GK, hGK⟩ : ∃ GK, GK = gk := ⟨_, rfl⟩
          have HGK := Aside0.mk hGK
          rw [← hGK] at HK
          clear hGK hp hk hgk hkl hbw
          go_upto_region 11 with (fail)
          go_quiet (fail)
          go_wp2
          go_roundg (GK - 1)
          case measure => have := HK.out; have := HGK.out; omega
          case rel => exact ⟨k + 1, by have := HK.out; omega, by have := HK.out; omega, by first | rfl | go_num, ⟨below_then HX.out (by first | exact below_dN _ | exact Below.refl _ _ | exact (Below.refl _ _).drew)⟩⟩
        · have hkn : k = q := by omega
          subst k
          go_wp2
          go_roundg (GJ - 1)
          case measure => have := HJ.out; have := HGJ.out; omega
          case rel => exact ⟨j + 1, by have := HJ.out; omega, by have := HJ.out; omega, by first | rfl | go_num, ⟨below_then HW.out HX.out⟩⟩
    · have hjn : j = n := by omega
      subst j
      go_wp2
      go_ret
      exact ⟨rfl, HW.out⟩
theorem con_at {α β : Type} (f : α → β) (d : α) {l m : List α} (h : l.map f = m.map f) {j : Nat} (hj : j < l.length) (hm : j < m.length) : f (l.getD j d) = f (m.getD j d) := by
  have h := congrArg (fun l => l[j]?) h
  simp only [List.getElem?_map] at h
  rw [List.getElem?_eq_getElem hj, List.getElem?_eq_getElem hm] at h
  rw [List.getD_eq_getElem?_getD, List.getD_eq_getElem?_getD, List.getElem?_eq_getElem hj, List.getElem?_eq_getElem hm]
  exact Option.some.inj h
set_option maxRecDepth 100000 in
set_option maxHeartbeats 12800000 in
theorem same_graphs (g1 g2 : GD) (w : World) (h1 : ReadsG w g1) (h2 : ReadsG w g2) (e1 : g1.nts.map TD.con = g2.nts.map TD.con) (e2 : g1.ets.map TD.con = g2.ets.map TD.con) (e3 : g1.ns.map ND.con = g2.ns.map ND.con) (e4 : g1.es.map ED.con = g2.es.map ED.con) :
    Calls Tryd.prog 12 #[g1.val, g2.val] w fun e w' => e = .returned (.bool true) ∧ Below w.heap.size w w' := by
  have HT1 : Aside0 (∀ W, Below w.heap.size w W → Calls Tryd.prog 32 #[.slice g1.NA g1.nts.length g1.nc, .slice g2.NA g2.nts.length g2.nc] W fun e w' => e = .returned (.bool true) ∧ Below W.heap.size W w') := ⟨fun W h => stypes_eq g1.nts g2.nts g1.NA g2.NA g1.nc g2.nc W (h1.below h).nts (h2.below h).nts e1⟩
  have HT2 : Aside0 (∀ W, Below w.heap.size w W → Calls Tryd.prog 32 #[.slice g1.EA g1.ets.length g1.ec, .slice g2.EA g2.ets.length g2.ec] W fun e w' => e = .returned (.bool true) ∧ Below W.heap.size W w') := ⟨fun W h => stypes_eq g1.ets g2.ets g1.EA g2.EA g1.ec g2.ec W (h1.below h).ets (h2.below h).ets e2⟩
  have H1 := Aside0.mk h1
  have H2 := Aside0.mk h2
  have l1 : g2.nts.length = g1.nts.length := by have := congrArg List.length e1; simpa using this.symm
  have l2 : g2.ets.length = g1.ets.length := by have := congrArg List.length e2; simpa using this.symm
  have l3 : g2.ns.length = g1.ns.length := by have := congrArg List.length e3; simpa using this.symm
  have l4 : g2.es.length = g1.es.length := by have := congrArg List.length e4; simpa using this.symm
  have HE3 := Aside0.mk e3
  have HE4 := Aside0.mk e4
  obtain ⟨NA, nts, nc, EA, ets, ec, VA, ns, vc, UA, es, uc⟩ := g1
  obtain ⟨NB, nts2, nd, EB, ets2, ed, VB, ns2, vd, UB, es2, ud⟩ := g2
  simp only [GD.val] at HT1 HT2 ⊢
  simp only at l1 l2 l3 l4 HE3 HE4
  rw [l1] at HT1 ⊢
  rw [l2] at HT2 ⊢
  rw [l3, l4]
  obtain ⟨n1, hn1⟩ : ∃ n1, n1 = nts.length := ⟨_, rfl⟩
  obtain ⟨n2, hn2⟩ : ∃ n2, n2 = ets.length := ⟨_, rfl⟩
  obtain ⟨n3, hn3⟩ : ∃ n3, n3 = ns.length := ⟨_, rfl⟩
  obtain ⟨n4, hn4⟩ : ∃ n4, n4 = es.length := ⟨_, rfl⟩
  have hn39 : (n3 : Int) ≤ 9223372036854775807 := by have := h1.ns.len; simp only at this; omega
  have hn49 : (n4 : Int) ≤ 9223372036854775807 := by have := h1.es.len; simp only at this; omega
  rw [← hn1] at HT1 ⊢
  rw [← hn2] at HT2 ⊢
  rw [← hn3, ← hn4]
  have HN := Aside0.mk (And.intro hn3 (And.intro hn4 (And.intro (l3.trans hn3.symm) (l4.trans hn4.symm))))
  clear hn1 hn2 hn3 hn4 l1 l2 l3 l4 e1 e2 e3 e4 h1 h2
  go_enter Tryd.func12, Tryd.ntmps12
  go_upto_region 1 with (fail)
  obtain ⟨Wa, hWa⟩ : ∃ Wa, Wa = w.alloc (.cells #[.slice NA n1 nc, .slice EA n2 ec, .slice VA n3 vc, .slice UA n4 uc] 28) := ⟨_, rfl⟩
  obtain ⟨W1, hW1⟩ : ∃ W1, W1 = Wa.alloc (.cells #[.slice NB n1 nd, .slice EB n2 ed, .slice VB n3 vd, .slice UB n4 ud] 28) := ⟨_, rfl⟩
  obtain ⟨ba, hba⟩ : ∃ ba, ba = w.heap.size := ⟨_, rfl⟩
  obtain ⟨bb, hbb⟩ : ∃ bb, bb = w.heap.size + 1 := ⟨_, rfl⟩
  have sa : Wa.heap.size = w.heap.size + 1 := by rw [hWa]; simp
  have HA1 : Aside0 (GBox W1 ba #[.slice NA n1 nc, .slice EA n2 ec, .slice VA n3 vc, .slice UA n4 uc]) := ⟨by
    unfold GBox
    rw [hba, hW1, heap_alloc_old _ _ (by omega), hWa]
    exact heap_alloc_new w _⟩
  have HB1 : Aside0 (GBox W1 bb #[.slice NB n1 nd, .slice EB n2 ed, .slice VB n3 vd, .slice UB n4 ud]) := ⟨by
    unfold GBox
    rw [hbb, hW1, ← sa]
    exact heap_alloc_new Wa _⟩
  have HW1 : Aside0 (Below w.heap.size w W1) := ⟨by rw [hW1, hWa]; exact below_more (below_more (Below.refl _ _) _) _⟩
  rw [← hWa, ← hW1, ← hbb, ← hba]
  clear hWa hW1 hba hbb sa
  have HBX : Aside0 (∀ X, Below W1.heap.size W1 X → GBox X ba #[.slice NA n1 nc, .slice EA n2 ec, .slice VA n3 vc, .slice UA n4 uc] ∧ GBox X bb #[.slice NB n1 nd, .slice EB n2 ed, .slice VB n3 vd, .slice UB n4 ud]) := ⟨fun X h => ⟨(h.block ba (Array.getElem?_eq_some_iff.1 HA1.out).1).trans HA1.out, (h.block bb (Array.getElem?_eq_some_iff.1 HB1.out).1).trans HB1.out⟩⟩
  have hca := HA1.out.cells
  have hcb := HB1.out.cells
  have ht := HT1.out W1 HW1.out
  go_upto_region 2 with (go_at_call 32; go_loud (refine ht.mono ?_); first | (intro e W2 he hb2; subst he) | rintro e W2 ⟨rfl, hb2⟩)
  clear ht hca hcb
  obtain ⟨hga, hgb⟩ := HBX.out W2 hb2
  have hca := hga.cells
  have hcb := hgb.cells
  have ht := HT2.out W2 (below_then HW1.out hb2)
  have HB2 := Aside0.mk hb2
  clear hb2 hga hgb
  go_upto_region 3 with (go_at_call 32; go_loud (refine ht.mono ?_); first | (intro e W3 he hb3; subst he) | rintro e W3 ⟨rfl, hb3⟩)
  clear ht hca hcb
  have HB3 := Aside0.mk (below_then HB2.out hb3)
  obtain ⟨hga, hgb⟩ := HBX.out W3 HB3.out
  have hca := hga.cells
  have hcb := hgb.cells
  clear hb3 hga hgb HB2
  go_wp2
  clear hca hcb
  go_loopg [7] (n3 + 1) (fun gg s7 wx => ∃ (j : Nat), j ≤ n3 ∧ n3 < gg + j ∧ s7 = .int .i64 j ∧ Aside0 (Below W1.heap.size W1 wx))
  case atStart => exact ⟨0, by omega, by omega, rfl, HB3⟩
  case round =>
    obtain ⟨j, hj, hg, rfl, HX⟩ := hrel
    have hj0 : (0 : Int) ≤ (j : Int) := by omega
    obtain ⟨hga, hgb⟩ := HBX.out wr HX.out
    have hca := hga.cells
    have hcb := hgb.cells
    have HXW := Aside0.mk (below_then HW1.out HX.out)
    by_cases hjt : j < n3
    · have hjti : (j : Int) < (n3 : Int) := by omega
      have hjl : j < ns.length := by have := HN.out; omega
      have hjl2 : j < ns2.length := by have := HN.out; omega
      obtain ⟨pa, hpa, ha⟩ := (H1.out.ns.below HXW.out).row j hjl
      obtain ⟨pb, hpb, hb⟩ := (H2.out.ns.below HXW.out).row j hjl2
      simp only at hpa hpb ha hb
      subst hpa
      subst hpb
      have hra := H1.out.ns.props _ (getD_in ns ND.zero j hjl)
      have hrb := H2.out.ns.props _ (getD_in ns2 ND.zero j hjl2)
      have hcc := con_at ND.con ND.zero HE3.out hjl hjl2
      obtain ⟨x, hx⟩ : ∃ x, x = ns.getD j ND.zero := ⟨_, rfl⟩
      obtain ⟨y, hy⟩ : ∃ y, y = ns2.getD j ND.zero := ⟨_, rfl⟩
      rw [← hx] at ha hra hcc
      rw [← hy] at hb hrb hcc
      obtain ⟨xid, xlb, xA, xqs, xc⟩ := x
      obtain ⟨yid, ylb, yA, yqs, yc⟩ := y
      simp only [ND.con, Prod.mk.injEq] at hcc
      obtain ⟨f1, f2, f3⟩ := hcc
      subst f1
      subst f2
      subst f3
      have HS : Aside0 (∀ W, Below wr.heap.size wr W → Calls Tryd.prog 33 #[.slice xA xqs.length xc, .slice yA xqs.length yc] W fun e w' => e = .returned (.bool true) ∧ Below W.heap.size W w') := ⟨fun W h => sprops_eq xqs xA yA xc yc W (hra.below (below_then HXW.out h)) (hrb.below (below_then HXW.out h))⟩
      have HC : Aside0 (∀ X, Below wr.heap.size wr X → HoldsN X (pa.add (j * 3)) ⟨xid, xlb, xA, xqs, xc⟩ ∧ HoldsN X (pb.add (j * 3)) ⟨xid, xlb, yA, xqs, yc⟩ ∧ X.cell? ⟨ba, 2, none⟩ = some (.slice (some pa) n3 vc) ∧ X.cell? ⟨bb, 2, none⟩ = some (.slice (some pb) n3 vd)) := ⟨fun X h => ⟨ha.below h, hb.below h, (HBX.out X (below_then HX.out h)).1.cells 2, (HBX.out X (below_then HX.out h)).2.cells 2⟩⟩
      have HJ := Aside0.mk (And.intro hj hg)
      obtain ⟨GJ, hGJ⟩ : ∃ GJ, GJ = gk := ⟨_, rfl⟩
      have HGJ := Aside0.mk hGJ
      rw [← hGJ] at HJ
      clear hGJ hx hy ha hb hra hrb hj hg hjl hjl2 hga hgb
      go_upto_region 8 with (fail)
      clear hca hcb
      refine wp_region_held_drew (S := (fun WW : World => Below wr.heap.size wr WW)) (by kernel_rfl) ?_ (fun hHeld => ?_)
      · exact (by first | exact Below.refl _ _ | exact (Below.refl _ _).drew | exact (Below.refl _ _).drew.drew)
      refine take_in (i := 0) (v := ?v0q12) rfl (by kernel_rfl) (by kernel_rfl) (by kernel_rfl) (fun _ _ _ h => h) (by rfl) ?hy0q12 (by assumption) ?_
      case hy0q12 => intro WW hSw; go_simp; try with_reducible rfl
      try simp only [Act.put, List.setIfInBounds_toArray, List.set_cons_zero, List.set_cons_succ]
      refine take_in (i := 1) (v := .slice (some pa) n3 vc) rfl (by kernel_rfl) (by kernel_rfl) (by kernel_rfl) (fun _ _ _ h => h) (by rfl) ?hy1q13 (by assumption) ?_
      case hy1q13 => intro WW hSw; obtain ⟨s1, s2, s3, s4⟩ := HC.out WW hSw; obtain ⟨_, _, a0, a1, a2⟩ := s1; obtain ⟨_, _, b0, b1, b2⟩ := s2; simp only at a0 a1 a2 b0 b1 b2; go_simp; try with_reducible rfl
      try simp only [Act.put, List.setIfInBounds_toArray, List.set_cons_zero, List.set_cons_succ]
      refine take_in (i := 2) (v := ?v2q14) rfl (by kernel_rfl) (by kernel_rfl) (by kernel_rfl) (fun _ _ _ h => h) (by rfl) ?hy2q14 (by assumption) ?_
      case hy2q14 => intro WW hSw; go_simp; try with_reducible rfl
      try simp only [Act.put, List.setIfInBounds_toArray, List.set_cons_zero, List.set_cons_succ]
      refine take_in (i := 3) (v := .pointer (some (pa.add (j * 3)))) rfl (by kernel_rfl) (by kernel_rfl) (by kernel_rfl) (fun _ _ _ h => h) (by rfl) ?hy3q15 (by assumption) ?_
      case hy3q15 => intro WW hSw; go_simp; try with_reducible rfl
      try simp only [Act.put, List.setIfInBounds_toArray, List.set_cons_zero, List.set_cons_succ]
      refine take_in (i := 4) (v := ?v4q16) rfl (by kernel_rfl) (by kernel_rfl) (by kernel_rfl) (fun _ _ _ h => h) (by rfl) ?hy4q16 (by assumption) ?_
      case hy4q16 => intro WW hSw; go_simp; try with_reducible rfl
      try simp only [Act.put, List.setIfInBounds_toArray, List.set_cons_zero, List.set_cons_succ]
      refine take_in (i := 5) (v := .slice xA xqs.length xc) rfl (by kernel_rfl) (by kernel_rfl) (by kernel_rfl) (fun _ _ _ h => h) (by rfl) ?hy5q17 (by assumption) ?_
      case hy5q17 => intro WW hSw; obtain ⟨s1, s2, s3, s4⟩ := HC.out WW hSw; obtain ⟨_, _, a0, a1, a2⟩ := s1; obtain ⟨_, _, b0, b1, b2⟩ := s2; simp only at a0 a1 a2 b0 b1 b2; go_simp; try with_reducible rfl
      try simp only [Act.put, List.setIfInBounds_toArray, List.set_cons_zero, List.set_cons_succ]
      refine take_in (i := 6) (v := ?v6q18) rfl (by kernel_rfl) (by kernel_rfl) (by kernel_rfl) (fun _ _ _ h => h) (by rfl) ?hy6q18 (by assumption) ?_
      case hy6q18 => intro WW hSw; go_simp; try with_reducible rfl
      try simp only [Act.put, List.setIfInBounds_toArray, List.set_cons_zero, List.set_cons_succ]
      refine take_in (i := 7) (v := .slice (some pb) n3 vd) rfl (by kernel_rfl) (by kernel_rfl) (by kernel_rfl) (fun _ _ _ h => h) (by rfl) ?hy7q19 (by assumption) ?_
      case hy7q19 => intro WW hSw; obtain ⟨s1, s2, s3, s4⟩ := HC.out WW hSw; obtain ⟨_, _, a0, a1, a2⟩ := s1; obtain ⟨_, _, b0, b1, b2⟩ := s2; simp only at a0 a1 a2 b0 b1 b2; go_simp; try with_reducible rfl
      try simp only [Act.put, List.setIfInBounds_toArray, List.set_cons_zero, List.set_cons_succ]
      refine take_in (i := 8) (v := ?v8q20) rfl (by kernel_rfl) (by kernel_rfl) (by kernel_rfl) (fun _ _ _ h => h) (by rfl) ?hy8q20 (by assumption) ?_
      case hy8q20 => intro WW hSw; go_simp; try with_reducible rfl
      try simp only [Act.put, List.setIfInBounds_toArray, List.set_cons_zero, List.set_cons_succ]
      refine take_in (i := 9) (v := .pointer (some (pb.add (j * 3)))) rfl (by kernel_rfl) (by kernel_rfl) (by kernel_rfl) (fun _ _ _ h => h) (by rfl) ?hy9q21 (by assumption) ?_
      case hy9q21 => intro WW hSw; go_simp; try with_reducible rfl
      try simp only [Act.put, List.setIfInBounds_toArray, List.set_cons_zero, List.set_cons_succ]
      refine take_in (i := 10) (v := ?v10q22) rfl (by kernel_rfl) (by kernel_rfl) (by kernel_rfl) (fun _ _ _ h => h) (by rfl) ?hy10q22 (by assumption) ?_
      case hy10q22 => intro WW hSw; go_simp; try with_reducible rfl
      try simp only [Act.put, List.setIfInBounds_toArray, List.set_cons_zero, List.set_cons_succ]
      refine take_in (i := 11) (v := .slice yA xqs.length yc) rfl (by kernel_rfl) (by kernel_rfl) (by kernel_rfl) (fun _ _ _ h => h) (by rfl) ?hy11q23 (by assumption) ?_
      case hy11q23 => intro WW hSw; obtain ⟨s1, s2, s3, s4⟩ := HC.out WW hSw; obtain ⟨_, _, a0, a1, a2⟩ := s1; obtain ⟨_, _, b0, b1, b2⟩ := s2; simp only at a0 a1 a2 b0 b1 b2; go_simp; try with_reducible rfl
      try simp only [Act.put, List.setIfInBounds_toArray, List.set_cons_zero, List.set_cons_succ]
      refine name_world (F := fun X => Below wr.heap.size wr X) (by assumption) (fun Z0 HZ0 => ?_)
      clear hHeld
      have hHeld : (fun WW : World => Below wr.heap.size wr WW) Z0 := HZ0
      refine one_step (i := 12) (by kernel_rfl) rfl (fun K hK => ?_)
      have hs := HS.out Z0 HZ0
      go_simp
      go_at_call 33
      go_loud (refine hs.mono ?_)
      rintro e Z1 ⟨rfl, hb5⟩
      have HZ1 := below_then HZ0 hb5
      refine hK.out _ _ HZ1 (fun hHeld => ?_)
      clear hHeld hK K
      try simp only [Act.put, List.setIfInBounds_toArray, List.set_cons_zero, List.set_cons_succ]
      refine name_world (F := fun X => Below wr.heap.size wr X) HZ1 (fun Z2 HZ2 => ?_)
      have hHeld : (fun WW : World => Below wr.heap.size wr WW) Z2 := HZ2
      clear HZ1 hb5 HZ0 hs
      refine take_in (i := 13) (v := ?v13q24) rfl (by kernel_rfl) (by kernel_rfl) (by kernel_rfl) (fun _ _ _ h => h) (by rfl) ?hy13q24 (by assumption) ?_
      case hy13q24 => intro WW hSw; go_simp; try with_reducible rfl
      try simp only [Act.put, List.setIfInBounds_toArray, List.set_cons_zero, List.set_cons_succ]
      refine wpAnyH_done (by kernel_rfl) ?_ _
      have HWZ := Aside0.mk (below_then HX.out HZ2)
      obtain ⟨h1, h2, h3, h4⟩ := HC.out Z2 HZ2
      obtain ⟨_, _, a0, a1, _⟩ := h1
      obtain ⟨_, _, b0, b1, _⟩ := h2
      simp only at a0 a1 b0 b1
      have hll : (xlb.toList == xlb.toList) = true := by simp
      go_upto_region 9 with (fail)
      go_quiet (fail)
      go_wp2
      go_roundg (GJ - 1)
      case measure => have := HJ.out; have := HGJ.out; omega
      case rel => exact ⟨j + 1, by have := HJ.out; omega, by have := HJ.out; omega, by first | rfl | go_num, ⟨below_then HWZ.out (by first | exact below_dN _ | exact Below.refl _ _ | exact (Below.refl _ _).drew)⟩⟩
    · have hjn : j = n3 := by omega
      subst j
      obtain ⟨wd, rfl⟩ : ∃ wd : World, wd = wr := ⟨_, rfl⟩
      have HD := HX
      clear HX hj hg hj0 hjt HXW hga hgb
      go_wp2
      clear hca hcb
      go_loopg [9] (n4 + 1) (fun gg s9 wx => ∃ (j : Nat), j ≤ n4 ∧ n4 < gg + j ∧ s9 = .int .i64 j ∧ Aside0 (Below W1.heap.size W1 wx))
      case atStart => exact ⟨0, by omega, by omega, rfl, HD⟩
      case round =>
        obtain ⟨j, hj, hg, rfl, HX⟩ := hrel
        have hj0 : (0 : Int) ≤ (j : Int) := by omega
        obtain ⟨hga, hgb⟩ := HBX.out wr HX.out
        have hca := hga.cells
        have hcb := hgb.cells
        have HXW := Aside0.mk (below_then HW1.out HX.out)
        by_cases hjt : j < n4
        · have hjti : (j : Int) < (n4 : Int) := by omega
          have hjl : j < es.length := by have := HN.out; omega
          have hjl2 : j < es2.length := by have := HN.out; omega
          obtain ⟨pa, hpa, ha⟩ := (H1.out.es.below HXW.out).row j hjl
          obtain ⟨pb, hpb, hb⟩ := (H2.out.es.below HXW.out).row j hjl2
          simp only at hpa hpb ha hb
          subst hpa
          subst hpb
          have hra := H1.out.es.props _ (getD_in es ED.zero j hjl)
          have hrb := H2.out.es.props _ (getD_in es2 ED.zero j hjl2)
          have hcc := con_at ED.con ED.zero HE4.out hjl hjl2
          obtain ⟨x, hx⟩ : ∃ x, x = es.getD j ED.zero := ⟨_, rfl⟩
          obtain ⟨y, hy⟩ : ∃ y, y = es2.getD j ED.zero := ⟨_, rfl⟩
          rw [← hx] at ha hra hcc
          rw [← hy] at hb hrb hcc
          obtain ⟨xid, xlb, xf, xt, xA, xqs, xc⟩ := x
          obtain ⟨yid, ylb, yf, yt, yA, yqs, yc⟩ := y
          simp only [ED.con, Prod.mk.injEq] at hcc
          obtain ⟨f1, f2, f3, f4, f5⟩ := hcc
          subst f1
          subst f2
          subst f3
          subst f4
          subst f5
          have HS : Aside0 (∀ W, Below wr.heap.size wr W → Calls Tryd.prog 33 #[.slice xA xqs.length xc, .slice yA xqs.length yc] W fun e w' => e = .returned (.bool true) ∧ Below W.heap.size W w') := ⟨fun W h => sprops_eq xqs xA yA xc yc W (hra.below (below_then HXW.out h)) (hrb.below (below_then HXW.out h))⟩
          have HC : Aside0 (∀ X, Below wr.heap.size wr X → HoldsE X (pb.add (j * 5)) ⟨xid, xlb, xf, xt, yA, xqs, yc⟩ ∧ X.cell? ⟨bb, 3, none⟩ = some (.slice (some pb) n4 ud)) := ⟨fun X h => ⟨hb.below h, (HBX.out X (below_then HX.out h)).2.cells 3⟩⟩
          obtain ⟨_, _, a0, a1, a2, a3, a4⟩ := ha
          simp only at a0 a1 a2 a3 a4
          have HJ := Aside0.mk (And.intro hj hg)
          obtain ⟨GJ, hGJ⟩ : ∃ GJ, GJ = gk := ⟨_, rfl⟩
          have HGJ := Aside0.mk hGJ
          rw [← hGJ] at HJ
          clear hGJ hx hy hb hra hrb hj hg hjl hjl2 hga hgb
          go_upto_region 15 with (fail)
          obtain ⟨W5, hW5⟩ : ∃ W5, W5 = wr.alloc (.cells #[.int .i64 xid, .string xlb, .int .i64 xf, .int .i64 xt, .slice xA xqs.length xc] 55) := ⟨_, rfl⟩
          obtain ⟨bx, hbx⟩ : ∃ bx, bx = wr.heap.size := ⟨_, rfl⟩
          have HX5 : Aside0 (EBox W5 bx #[.int .i64 xid, .string xlb, .int .i64 xf, .int .i64 xt, .slice xA xqs.length xc]) := ⟨by rw [hW5, hbx]; exact heap_alloc_new wr _⟩
          have HB5 : Aside0 (Below wr.heap.size wr W5) := ⟨by rw [hW5]; exact below_more (Below.refl _ _) _⟩
          rw [← hW5, ← hbx]
          obtain ⟨hh, hcb5⟩ := HC.out W5 HB5.out
          obtain ⟨_, _, b0, b1, b2, b3, b4⟩ := hh
          simp only at b0 b1 b2 b3 b4
          clear hW5 hbx a0 a1 a2 a3 a4 hca hcb
          go_upto_region 16 with (fail)
          obtain ⟨W6, hW6⟩ : ∃ W6, W6 = W5.alloc (.cells #[.int .i64 xid, .string xlb, .int .i64 xf, .int .i64 xt, .slice yA xqs.length yc] 55) := ⟨_, rfl⟩
          obtain ⟨by_, hby⟩ : ∃ by_, by_ = W5.heap.size := ⟨_, rfl⟩
          have HY6 : Aside0 (EBox W6 by_ #[.int .i64 xid, .string xlb, .int .i64 xf, .int .i64 xt, .slice yA xqs.length yc]) := ⟨by rw [hW6, hby]; exact heap_alloc_new W5 _⟩
          have hb56 : Below W5.heap.size W5 W6 := by rw [hW6]; exact below_more (Below.refl _ _) _
          have HX6 := Aside0.mk (HX5.out.below hb56)
          have HB6 := Aside0.mk (below_then HB5.out hb56)
          rw [← hW6, ← hby]
          clear hW6 hby b0 b1 b2 b3 b4 hcb5 hb56
          have hx6 := HX6.out.cells
          have hy6 := HY6.out.cells
          have hs := HS.out W6 HB6.out
          go_upto_region 17 with (go_at_call 33; go_loud (refine hs.mono ?_); first | (intro e W7 he hb7; subst he) | rintro e W7 ⟨rfl, hb7⟩)
          have HX7 := Aside0.mk (HX6.out.below hb7)
          have HY7 := Aside0.mk (HY6.out.below hb7)
          have HB7 := Aside0.mk (below_then HX.out (below_then HB6.out hb7))
          clear hx6 hy6 hs hb7
          have hx7 := HX7.out.cells
          have hy7 := HY7.out.cells
          have hll : (xlb.toList == xlb.toList) = true := by simp
          go_wp2
          go_roundg (GJ - 1)
          case measure => have := HJ.out; have := HGJ.out; omega
          case rel => exact ⟨j + 1, by have := HJ.out; omega, by have := HJ.out; omega, by first | rfl | go_num, HB7⟩
        · have hjn : j = n4 := by omega
          subst j
          go_wp2
          go_ret
          exact ⟨rfl, HXW.out⟩
end Go.Proofs.YtffifhinhemkdaaDoor
