/- The document's node, edge, Check. -/
import Derived.Test.YtffifhinhemkdaaDoorRkC
import Derived.Test.YtffifhinhemkdaaDoorRgPl5
set_option linter.unusedVariables false
set_option linter.unusedSimpArgs false
namespace Go.Proofs.YtffifhinhemkdaaDoor
open Go.RowKit Go.Maps

theorem gbox_below {W W' : World} {b : Nat} {cs : Array Value} (h : GBox W b cs) (hb : Below W.heap.size W W') : GBox W' b cs := (hb.block b (Array.getElem?_eq_some_iff.1 h).1).trans h
set_option maxRecDepth 100000 in
set_option maxHeartbeats 12800000 in
theorem node_any (g : GD) (w : World) (i : Nat) (hg : ReadsG w g) (hi : i < g.ns.length) (hnd : ∀ t ∈ g.nts, (t.ps.map PD.key).Nodup) (hT : Lib.Utf8Tabs 0 1 w) (hTB : ∀ W W', Below W.heap.size W W' → Lib.Utf8Tabs 0 1 W → Lib.Utf8Tabs 0 1 W') :
    Calls Tryd.prog 19 #[g.val, .int .i64 (i : Int)] w fun e w' => e = .returned (.int .i64 (recErr g.nts ((g.ns.take i).map ND.id) (g.ns.getD i ND.zero).id (g.ns.getD i ND.zero).key (g.ns.getD i ND.zero).qs true)) ∧ Below w.heap.size w w' := by
  have HG := Aside0.mk hg
  obtain ⟨NA, nts, nc, EA, ets, ec, VA, ns, vc, UA, es, uc⟩ := g
  simp only [GD.val] at hi hnd ⊢
  obtain ⟨pv, hpv, hh⟩ := hg.ns.row i hi
  simp only at hpv hh
  subst hpv
  have hqs := hg.ns.props _ (getD_in ns ND.zero i hi)
  have htx := hg.ns.txt _ (getD_in ns ND.zero i hi)
  obtain ⟨x, hx⟩ : ∃ x, x = ns.getD i ND.zero := ⟨_, rfl⟩
  rw [← hx] at hh hqs htx ⊢
  obtain ⟨xid, xlb, xA, xqs, xc⟩ := x
  simp only [ND.key] at hqs htx ⊢
  obtain ⟨RE, hRE⟩ : ∃ RE, RE = recErr nts ((ns.take i).map ND.id) xid xlb.data.toList xqs true := ⟨_, rfl⟩
  rw [← hRE]
  have HID : Aside0 ((ns.getD i ND.zero).id = xid) := ⟨by rw [← hx]⟩
  obtain ⟨n1, hn1⟩ : ∃ n1, n1 = nts.length := ⟨_, rfl⟩
  obtain ⟨n2, hn2⟩ : ∃ n2, n2 = ets.length := ⟨_, rfl⟩
  obtain ⟨n3, hn3⟩ : ∃ n3, n3 = ns.length := ⟨_, rfl⟩
  obtain ⟨n4, hn4⟩ : ∃ n4, n4 = es.length := ⟨_, rfl⟩
  have hin : i < n3 := by omega
  have hini : (i : Int) < (n3 : Int) := by omega
  have hi0 : (0 : Int) ≤ (i : Int) := by omega
  have hn9 : (n3 : Int) ≤ 9223372036854775807 := by have := hg.ns.len; simp only at this; omega
  have hi9 : (i : Int) ≤ 9223372036854775807 := by omega
  have hnt9 : (n1 : Int) ≤ 9223372036854775807 := by have := hg.nts.len; simp only at this; omega
  have HN := Aside0.mk (And.intro hn1 (And.intro hn2 (And.intro hn3 hn4)))
  have HREC := Aside0.mk hRE
  have HQS := Aside0.mk hqs
  have HTY : Aside0 (∀ W, Below w.heap.size w W → Calls Tryd.prog 31 #[.slice NA n1 nc, .string xlb] W fun e w' => ∃ r, e = .returned (.int .i64 r) ∧ TypeAns nts xlb.data.toList r ∧ Below W.heap.size W w') := ⟨fun W h => by
    have hh := type_any NA nts nc xlb W (hg.below h).nts
    try simp only at hh
    rw [← hn1] at hh
    exact hh⟩
  have HPR : Aside0 (∀ (t : TD), t ∈ nts → ∀ W, Below w.heap.size w W → Calls Tryd.prog 37 #[.agg #[.string t.s, .slice t.A t.ps.length t.c], .slice xA xqs.length xc] W fun e w' => e = .returned (.bool (fitsB t.ps [] xqs)) ∧ Below W.heap.size W w') := ⟨fun t ht W h => rprops_any t.s t.A t.ps t.c xA xqs xc W ((hg.nts.props t ht).below h) (hqs.below h) (hnd t ht) (hTB _ _ h hT) hTB⟩
  have HHX : Aside0 (∀ X, Below w.heap.size w X → HoldsN X (pv.add (i * 3)) ⟨xid, xlb, xA, xqs, xc⟩) := ⟨fun X h => hh.below h⟩
  have HTR : Aside0 (∀ X, Below w.heap.size w X → ∀ (j : Nat), j < nts.length → ∃ ad, NA = some ad ∧ HoldsT X (ad.add (j * 2)) (nts.getD j TD.zero)) := ⟨fun X h j hj => (hg.nts.below h).row j hj⟩
  rw [← hn1, ← hn2, ← hn3, ← hn4]
  clear hn1 hn2 hn3 hn4 hg hi hnd hT hTB hqs htx hRE hx
  obtain ⟨_, _, r0, r1, r2⟩ := hh
  simp only at r0 r1 r2
  go_enter Tryd.func19, Tryd.ntmps19
  go_upto_region 1 with (fail)
  obtain ⟨W1, hW1⟩ : ∃ W1, W1 = w.alloc (.cells #[.slice NA n1 nc, .slice EA n2 ec, .slice (some pv) n3 vc, .slice UA n4 uc] 28) := ⟨_, rfl⟩
  obtain ⟨br, hbr⟩ : ∃ br, br = w.heap.size := ⟨_, rfl⟩
  have HR1 : Aside0 (GBox W1 br #[.slice NA n1 nc, .slice EA n2 ec, .slice (some pv) n3 vc, .slice UA n4 uc]) := ⟨by unfold GBox; rw [hbr, hW1]; exact heap_alloc_new w _⟩
  have HB1 : Aside0 (Below w.heap.size w W1) := ⟨by rw [hW1]; exact below_more (Below.refl _ _) _⟩
  rw [← hW1, ← hbr]
  have hh1 := HHX.out W1 HB1.out
  clear hW1 hbr r0 r1 r2
  obtain ⟨_, _, r0, r1, r2⟩ := hh1
  simp only at r0 r1 r2
  have hrc := HR1.out.cells
  go_upto_region 2 with (fail)
  obtain ⟨W2, hW2⟩ : ∃ W2, W2 = W1.alloc (.cells #[.int .i64 xid, .string xlb, .slice xA xqs.length xc] 52) := ⟨_, rfl⟩
  obtain ⟨bx, hbx⟩ : ∃ bx, bx = W1.heap.size := ⟨_, rfl⟩
  have hb12 : Below W1.heap.size W1 W2 := by rw [hW2]; exact below_more (Below.refl _ _) _
  have HX2 : Aside0 (NBox W2 bx #[.int .i64 xid, .string xlb, .slice xA xqs.length xc]) := ⟨by rw [hW2, hbx]; exact heap_alloc_new W1 _⟩
  have HR2 := Aside0.mk (gbox_below HR1.out hb12)
  have HB2 := Aside0.mk (below_then HB1.out hb12)
  have HBX : Aside0 (∀ X, Below W2.heap.size W2 X → GBox X br #[.slice NA n1 nc, .slice EA n2 ec, .slice (some pv) n3 vc, .slice UA n4 uc] ∧ NBox X bx #[.int .i64 xid, .string xlb, .slice xA xqs.length xc]) := ⟨fun X h => ⟨gbox_below HR2.out h, HX2.out.below h⟩⟩
  rw [← hW2, ← hbx]
  clear hW2 hbx hb12 r0 r1 r2 hrc
  have hxc := HX2.out.cells
  by_cases h44 : xid < 0 ∨ 1099511627776 < xid
  · have he : RE = 44 := by rw [HREC.out, recErr, if_pos h44]
    subst he
    rcases h44 with h | h
    · go_wp2
      go_ret
      exact ⟨rfl, HB2.out⟩
    · have h0 : ¬ xid < 0 := by omega
      go_wp2
      go_ret
      exact ⟨rfl, HB2.out⟩
  · have h440 : ¬ xid < 0 := by omega
    have h441 : xid ≤ 1099511627776 := by omega
    have h442 : 0 ≤ xid := by omega
    have H44 := Aside0.mk h44
    clear h44
    go_wp2
    clear hxc
    go_loopg [6] (i + 1) (fun gg s6 wx => ∃ (k : Nat), k ≤ i ∧ i < gg + k ∧ s6 = .int .i64 k ∧ Aside0 (¬ xid ∈ (ns.take k).map ND.id) ∧ Aside0 (Below W2.heap.size W2 wx))
    case atStart => exact ⟨0, by omega, by omega, rfl, ⟨by simp⟩, ⟨Below.refl _ _⟩⟩
    case round =>
      obtain ⟨k, hk, hg, rfl, HF, HW⟩ := hrel
      have hk0 : (0 : Int) ≤ (k : Int) := by omega
      obtain ⟨hbr, hbx⟩ := HBX.out wr HW.out
      have hrc := hbr.cells
      have hxc := hbx.cells
      clear hbr hbx
      by_cases hkt : k < i
      · have hkti : (k : Int) < (i : Int) := by omega
        have hkn : k < n3 := by omega
        have hkni : (k : Int) < (n3 : Int) := by omega
        have hkl : k < ns.length := by have := HN.out; omega
        obtain ⟨pv2, e2, hy⟩ := (HG.out.ns.below (below_then HB2.out HW.out)).row k hkl
        cases e2
        obtain ⟨y, hyy⟩ : ∃ y, y = ns.getD k ND.zero := ⟨_, rfl⟩
        have HY : Aside0 ((ns.getD k ND.zero).id = y.id) := ⟨by rw [hyy]⟩
        rw [← hyy] at hy
        obtain ⟨yid, ylb, yA, yqs, yc⟩ := y
        obtain ⟨_, _, y0, y1, y2⟩ := hy
        simp only at y0
        have HYI := Aside0.mk HY.out
        have HJ := Aside0.mk (And.intro hkt (And.intro hg hkl))
        obtain ⟨GJ, hGJ⟩ : ∃ GJ, GJ = gk := ⟨_, rfl⟩
        have HGJ := Aside0.mk hGJ
        rw [← hGJ] at HJ
        clear hGJ hyy hk hg hkl y1 y2 HY
        go_upto_region 7 with (fail)
        by_cases he : yid = xid
        · have hre : RE = 42 := by
            rw [HREC.out, recErr, if_neg H44.out, if_pos (take_mono ND.id ns _ (m := k + 1) HJ.out.1 ((take_step ND.id ND.zero ns _ k HJ.out.2.2).2 (.inr (HYI.out.trans he))))]
          subst hre
          subst he
          go_quiet (fail)
          go_wp2
          go_ret
          exact ⟨rfl, below_then (below_then HB2.out HW.out) (by first | exact below_q _ | exact Below.refl _ _ | exact (Below.refl _ _).drew)⟩
        · have heb : (yid == xid) = false := by simp [he]
          have HF2 : Aside0 (¬ xid ∈ (ns.take (k + 1)).map ND.id) := ⟨fun h => by
            rcases (take_step ND.id ND.zero ns _ k HJ.out.2.2).1 h with h | h
            · exact HF.out h
            · exact he (HYI.out.symm.trans h)⟩
          go_quiet (fail)
          go_wp2
          go_roundg (GJ - 1)
          case measure => have := HJ.out; have := HGJ.out; omega
          case rel => exact ⟨k + 1, by have := HJ.out; omega, by have := HJ.out; omega, by first | rfl | go_num, HF2, ⟨below_then HW.out (by first | exact below_q _ | exact Below.refl _ _ | exact (Below.refl _ _).drew)⟩⟩
      · have hkn : k = i := by omega
        subst k
        obtain ⟨wd, rfl⟩ : ∃ wd : World, wd = wr := ⟨_, rfl⟩
        have HWD := HW
        have HFD := HF
        have HBD := Aside0.mk (below_then HB2.out HWD.out)
        have hty := HTY.out wd HBD.out
        clear HW HF hk hg hk0 hkt
        go_upto_region 10 with (go_at_call 31; go_loud (refine hty.mono ?_); rintro e W5 ⟨r, rfl, hans, hb5⟩)
        have HW5 := Aside0.mk (below_then HWD.out hb5)
        have HB5 := Aside0.mk (below_then HBD.out hb5)
        clear hty hrc hxc hb5
        obtain ⟨hbr, hbx⟩ := HBX.out W5 HW5.out
        have hrc := hbr.cells
        have hxc := hbx.cells
        clear hbr hbx
        rcases hans with ⟨hno, hr1⟩ | ⟨hyes, ti, hti, hr1, hte⟩
        · subst hr1
          have hre : RE = 45 := by rw [HREC.out, recErr, if_neg H44.out, if_neg HFD.out, if_pos hno]
          subst hre
          go_wp2
          go_ret
          exact ⟨rfl, HB5.out⟩
        · subst hr1
          have hti0 : (0 : Int) ≤ (ti : Int) := by omega
          have htin : ti < n1 := by have := HN.out; omega
          have htini : (ti : Int) < (n1 : Int) := by omega
          have htneg : ¬ (ti : Int) < 0 := by omega
          have HYES := Aside0.mk (And.intro hyes (And.intro hti hte))
          clear hyes hti hte
          obtain ⟨td, htd, _⟩ := HTR.out W5 HB5.out ti HYES.out.2.1
          subst htd
          obtain ⟨tt, htt⟩ : ∃ tt, tt = typeOf nts xlb.data.toList := ⟨_, rfl⟩
          have HPT := HPR.out tt (by rw [htt]; exact typeOf_mem HYES.out.1)
          obtain ⟨FB, hFB⟩ : ∃ FB, FB = fitsB tt.ps [] xqs := ⟨_, rfl⟩
          rw [← hFB] at HPT
          have HPT2 := Aside0.mk HPT
          have HFB : Aside0 (FB = fitsB (typeOf nts xlb.data.toList).ps [] xqs) := ⟨by rw [hFB, htt]⟩
          have hTT := htt.symm
          clear HPT hFB htt
          obtain ⟨ts_, tA, tp, tcc⟩ := tt
          simp only at HPT2
          go_upto_region 12 with (fail)
          clear hrc hxc
          refine wp_region_held_drew (S := (fun WW : World => Below W5.heap.size W5 WW)) (by kernel_rfl) ?_ (fun hHeld => ?_)
          · exact (by first | exact Below.refl _ _ | exact (Below.refl _ _).drew | exact (Below.refl _ _).drew.drew)
          refine take_in (i := 0) (v := ?v0d1) rfl (by kernel_rfl) (by kernel_rfl) (by kernel_rfl) (fun _ _ _ h => h) (by rfl) ?hy0d1 (by assumption) ?_
          case hy0d1 => intro WW hSw; go_simp; try with_reducible rfl
          try simp only [Act.put, List.setIfInBounds_toArray, List.set_cons_zero, List.set_cons_succ]
          refine take_in (i := 1) (v := .slice (some td) n1 nc) rfl (by kernel_rfl) (by kernel_rfl) (by kernel_rfl) (fun _ _ _ h => h) (by rfl) ?hy1d2 (by assumption) ?_
          case hy1d2 => intro WW hSw; obtain ⟨s1, s2⟩ := HBX.out WW (below_then HW5.out hSw); have s3 := s1.cells; have s4 := s2.cells; go_simp; try with_reducible rfl
          try simp only [Act.put, List.setIfInBounds_toArray, List.set_cons_zero, List.set_cons_succ]
          refine take_in (i := 2) (v := ?v2d3) rfl (by kernel_rfl) (by kernel_rfl) (by kernel_rfl) (fun _ _ _ h => h) (by rfl) ?hy2d3 (by assumption) ?_
          case hy2d3 => intro WW hSw; go_simp; try with_reducible rfl
          try simp only [Act.put, List.setIfInBounds_toArray, List.set_cons_zero, List.set_cons_succ]
          refine take_in (i := 3) (v := .pointer (some (td.add (ti * 2)))) rfl (by kernel_rfl) (by kernel_rfl) (by kernel_rfl) (fun _ _ _ h => h) (by rfl) ?hy3d4 (by assumption) ?_
          case hy3d4 => intro WW hSw; go_simp; try with_reducible rfl
          try simp only [Act.put, List.setIfInBounds_toArray, List.set_cons_zero, List.set_cons_succ]
          refine take_in (i := 4) (v := .agg #[.string ts_, .slice tA tp.length tcc]) rfl (by kernel_rfl) (by kernel_rfl) (by kernel_rfl) (fun _ _ _ h => h) (by rfl) ?hy4d5 (by assumption) ?_
          case hy4d5 => intro WW hSw; obtain ⟨td2, e2, s5⟩ := HTR.out WW (below_then HB5.out hSw) ti HYES.out.2.1; cases e2; rw [HYES.out.2.2, hTT] at s5; obtain ⟨_, _, t0, t1⟩ := s5; simp only at t0 t1; go_simp; try with_reducible rfl
          try simp only [Act.put, List.setIfInBounds_toArray, List.set_cons_zero, List.set_cons_succ]
          refine take_in (i := 5) (v := ?v5d6) rfl (by kernel_rfl) (by kernel_rfl) (by kernel_rfl) (fun _ _ _ h => h) (by rfl) ?hy5d6 (by assumption) ?_
          case hy5d6 => intro WW hSw; go_simp; try with_reducible rfl
          try simp only [Act.put, List.setIfInBounds_toArray, List.set_cons_zero, List.set_cons_succ]
          refine take_in (i := 6) (v := .slice xA xqs.length xc) rfl (by kernel_rfl) (by kernel_rfl) (by kernel_rfl) (fun _ _ _ h => h) (by rfl) ?hy6d7 (by assumption) ?_
          case hy6d7 => intro WW hSw; obtain ⟨s1, s2⟩ := HBX.out WW (below_then HW5.out hSw); have s3 := s1.cells; have s4 := s2.cells; go_simp; try with_reducible rfl
          try simp only [Act.put, List.setIfInBounds_toArray, List.set_cons_zero, List.set_cons_succ]
          refine name_world (F := fun X => Below W5.heap.size W5 X) (by assumption) (fun Z0 HZ0 => ?_)
          clear hHeld
          have hHeld : (fun WW : World => Below W5.heap.size W5 WW) Z0 := HZ0
          refine one_step (i := 7) (by kernel_rfl) rfl (fun K hK => ?_)
          have hs := HPT2.out Z0 (below_then HB5.out HZ0)
          go_simp
          go_at_call 37
          go_loud (refine hs.mono ?_)
          rintro e Z1 ⟨rfl, hb5⟩
          have HZ1 := below_then HZ0 hb5
          refine hK.out _ _ HZ1 (fun hHeld => ?_)
          clear hHeld hK K
          try simp only [Act.put, List.setIfInBounds_toArray, List.set_cons_zero, List.set_cons_succ]
          refine name_world (F := fun X => Below W5.heap.size W5 X) HZ1 (fun Z2 HZ2 => ?_)
          have hHeld : (fun WW : World => Below W5.heap.size W5 WW) Z2 := HZ2
          clear HZ1 hb5 HZ0 hs
          refine take_in (i := 8) (v := ?v8d8) rfl (by kernel_rfl) (by kernel_rfl) (by kernel_rfl) (fun _ _ _ h => h) (by rfl) ?hy8d8 (by assumption) ?_
          case hy8d8 => intro WW hSw; go_simp; try with_reducible rfl
          try simp only [Act.put, List.setIfInBounds_toArray, List.set_cons_zero, List.set_cons_succ]
          refine wpAnyH_done (by kernel_rfl) ?_ _
          have HBZ := Aside0.mk (below_then HB5.out HZ2)
          clear hTT HZ2
          cases FB with
          | true =>
            have hre : RE = 0 := by rw [HREC.out, recErr, if_neg H44.out, if_neg HFD.out, if_neg (fun h => h HYES.out.1), if_neg (by decide), ← HFB.out, if_neg (by decide)]
            subst hre
            go_wp2
            go_ret
            exact ⟨rfl, HBZ.out⟩
          | false =>
            have hre : RE = 47 := by rw [HREC.out, recErr, if_neg H44.out, if_neg HFD.out, if_neg (fun h => h HYES.out.1), if_neg (by decide), ← HFB.out, if_pos rfl]
            subst hre
            go_wp2
            go_ret
            exact ⟨rfl, HBZ.out⟩
set_option maxRecDepth 100000 in
set_option maxHeartbeats 12800000 in
theorem edge_any (g : GD) (w : World) (i : Nat) (hg : ReadsG w g) (hi : i < g.es.length) (hnd : ∀ t ∈ g.ets, (t.ps.map PD.key).Nodup) (hT : Lib.Utf8Tabs 0 1 w) (hTB : ∀ W W', Below W.heap.size W W' → Lib.Utf8Tabs 0 1 W → Lib.Utf8Tabs 0 1 W') :
    Calls Tryd.prog 20 #[g.val, .int .i64 (i : Int)] w fun e w' => e = .returned (.int .i64 (recErr g.ets ((g.es.take i).map ED.id) (g.es.getD i ED.zero).id (g.es.getD i ED.zero).key (g.es.getD i ED.zero).qs (endsB (g.ns.map ND.id) (g.es.getD i ED.zero)))) ∧ Below w.heap.size w w' := by
  have HG := Aside0.mk hg
  obtain ⟨NA, nts, nc, EA, ets, ec, VA, ns, vc, UA, es, uc⟩ := g
  simp only [GD.val] at hi hnd ⊢
  obtain ⟨pv, hpv, hh⟩ := hg.es.row i hi
  simp only at hpv hh
  subst hpv
  have hqs := hg.es.props _ (getD_in es ED.zero i hi)
  have htx := hg.es.txt _ (getD_in es ED.zero i hi)
  obtain ⟨x, hx⟩ : ∃ x, x = es.getD i ED.zero := ⟨_, rfl⟩
  rw [← hx] at hh hqs htx ⊢
  obtain ⟨xid, xlb, xf, xt, xA, xqs, xc⟩ := x
  simp only [ED.key] at hqs htx ⊢
  obtain ⟨RE, hRE⟩ : ∃ RE, RE = recErr ets ((es.take i).map ED.id) xid xlb.data.toList xqs (endsB (ns.map ND.id) ⟨xid, xlb, xf, xt, xA, xqs, xc⟩) := ⟨_, rfl⟩
  rw [← hRE]
  have HID : Aside0 ((es.getD i ED.zero).id = xid) := ⟨by rw [← hx]⟩
  obtain ⟨n1, hn1⟩ : ∃ n1, n1 = nts.length := ⟨_, rfl⟩
  obtain ⟨n2, hn2⟩ : ∃ n2, n2 = ets.length := ⟨_, rfl⟩
  obtain ⟨n3, hn3⟩ : ∃ n3, n3 = ns.length := ⟨_, rfl⟩
  obtain ⟨n4, hn4⟩ : ∃ n4, n4 = es.length := ⟨_, rfl⟩
  have hin : i < n4 := by omega
  have hini : (i : Int) < (n4 : Int) := by omega
  have hi0 : (0 : Int) ≤ (i : Int) := by omega
  have hn9 : (n4 : Int) ≤ 9223372036854775807 := by have := hg.es.len; simp only at this; omega
  have hi9 : (i : Int) ≤ 9223372036854775807 := by omega
  have hnt9 : (n2 : Int) ≤ 9223372036854775807 := by have := hg.ets.len; simp only at this; omega
  have HN := Aside0.mk (And.intro hn1 (And.intro hn2 (And.intro hn3 hn4)))
  have HREC := Aside0.mk hRE
  have HQS := Aside0.mk hqs
  have HTY : Aside0 (∀ W, Below w.heap.size w W → Calls Tryd.prog 31 #[.slice EA n2 ec, .string xlb] W fun e w' => ∃ r, e = .returned (.int .i64 r) ∧ TypeAns ets xlb.data.toList r ∧ Below W.heap.size W w') := ⟨fun W h => by
    have hh := type_any EA ets ec xlb W (hg.below h).ets
    try simp only at hh
    rw [← hn2] at hh
    exact hh⟩
  have HAT : Aside0 (∀ (z : Int) W, Below w.heap.size w W → Calls Tryd.prog 38 #[.slice VA n3 vc, .int .i64 z] W fun e w' => ∃ r, e = .returned (.int .i64 r) ∧ AtAns (ns.map ND.id) z r ∧ Below W.heap.size W w') := ⟨fun z W h => by
    have hh := at_any VA ns vc z W (hg.below h).ns
    try simp only at hh
    rw [← hn3] at hh
    exact hh⟩
  have HPR : Aside0 (∀ (t : TD), t ∈ ets → ∀ W, Below w.heap.size w W → Calls Tryd.prog 37 #[.agg #[.string t.s, .slice t.A t.ps.length t.c], .slice xA xqs.length xc] W fun e w' => e = .returned (.bool (fitsB t.ps [] xqs)) ∧ Below W.heap.size W w') := ⟨fun t ht W h => rprops_any t.s t.A t.ps t.c xA xqs xc W ((hg.ets.props t ht).below h) (hqs.below h) (hnd t ht) (hTB _ _ h hT) hTB⟩
  have HHX : Aside0 (∀ X, Below w.heap.size w X → HoldsE X (pv.add (i * 5)) ⟨xid, xlb, xf, xt, xA, xqs, xc⟩) := ⟨fun X h => hh.below h⟩
  have HTR : Aside0 (∀ X, Below w.heap.size w X → ∀ (j : Nat), j < ets.length → ∃ ad, EA = some ad ∧ HoldsT X (ad.add (j * 2)) (ets.getD j TD.zero)) := ⟨fun X h j hj => (hg.ets.below h).row j hj⟩
  rw [← hn1, ← hn2, ← hn3, ← hn4]
  clear hn1 hn2 hn3 hn4 hg hi hnd hT hTB hqs htx hRE hx
  obtain ⟨_, _, r0, r1, r2, r3, r4⟩ := hh
  simp only at r0 r1 r2 r3 r4
  go_enter Tryd.func20, Tryd.ntmps20
  go_upto_region 1 with (fail)
  obtain ⟨W1, hW1⟩ : ∃ W1, W1 = w.alloc (.cells #[.slice NA n1 nc, .slice EA n2 ec, .slice VA n3 vc, .slice (some pv) n4 uc] 28) := ⟨_, rfl⟩
  obtain ⟨br, hbr⟩ : ∃ br, br = w.heap.size := ⟨_, rfl⟩
  have HR1 : Aside0 (GBox W1 br #[.slice NA n1 nc, .slice EA n2 ec, .slice VA n3 vc, .slice (some pv) n4 uc]) := ⟨by unfold GBox; rw [hbr, hW1]; exact heap_alloc_new w _⟩
  have HB1 : Aside0 (Below w.heap.size w W1) := ⟨by rw [hW1]; exact below_more (Below.refl _ _) _⟩
  rw [← hW1, ← hbr]
  have hh1 := HHX.out W1 HB1.out
  clear hW1 hbr r0 r1 r2 r3 r4
  obtain ⟨_, _, r0, r1, r2, r3, r4⟩ := hh1
  simp only at r0 r1 r2 r3 r4
  have hrc := HR1.out.cells
  go_upto_region 2 with (fail)
  obtain ⟨W2, hW2⟩ : ∃ W2, W2 = W1.alloc (.cells #[.int .i64 xid, .string xlb, .int .i64 xf, .int .i64 xt, .slice xA xqs.length xc] 55) := ⟨_, rfl⟩
  obtain ⟨bx, hbx⟩ : ∃ bx, bx = W1.heap.size := ⟨_, rfl⟩
  have hb12 : Below W1.heap.size W1 W2 := by rw [hW2]; exact below_more (Below.refl _ _) _
  have HX2 : Aside0 (EBox W2 bx #[.int .i64 xid, .string xlb, .int .i64 xf, .int .i64 xt, .slice xA xqs.length xc]) := ⟨by rw [hW2, hbx]; exact heap_alloc_new W1 _⟩
  have HR2 := Aside0.mk (gbox_below HR1.out hb12)
  have HB2 := Aside0.mk (below_then HB1.out hb12)
  have HBX : Aside0 (∀ X, Below W2.heap.size W2 X → GBox X br #[.slice NA n1 nc, .slice EA n2 ec, .slice VA n3 vc, .slice (some pv) n4 uc] ∧ EBox X bx #[.int .i64 xid, .string xlb, .int .i64 xf, .int .i64 xt, .slice xA xqs.length xc]) := ⟨fun X h => ⟨gbox_below HR2.out h, HX2.out.below h⟩⟩
  rw [← hW2, ← hbx]
  clear hW2 hbx hb12 r0 r1 r2 r3 r4 hrc
  have hxc := HX2.out.cells
  by_cases h44 : xid < 0 ∨ 1099511627776 < xid
  · have he : RE = 44 := by rw [HREC.out, recErr, if_pos h44]
    subst he
    rcases h44 with h | h
    · go_wp2
      go_ret
      exact ⟨rfl, HB2.out⟩
    · have h0 : ¬ xid < 0 := by omega
      go_wp2
      go_ret
      exact ⟨rfl, HB2.out⟩
  · have h440 : ¬ xid < 0 := by omega
    have h441 : xid ≤ 1099511627776 := by omega
    have h442 : 0 ≤ xid := by omega
    have H44 := Aside0.mk h44
    clear h44
    go_wp2
    clear hxc
    go_loopg [6] (i + 1) (fun gg s6 wx => ∃ (k : Nat), k ≤ i ∧ i < gg + k ∧ s6 = .int .i64 k ∧ Aside0 (¬ xid ∈ (es.take k).map ED.id) ∧ Aside0 (Below W2.heap.size W2 wx))
    case atStart => exact ⟨0, by omega, by omega, rfl, ⟨by simp⟩, ⟨Below.refl _ _⟩⟩
    case round =>
      obtain ⟨k, hk, hg, rfl, HF, HW⟩ := hrel
      have hk0 : (0 : Int) ≤ (k : Int) := by omega
      obtain ⟨hbr, hbx⟩ := HBX.out wr HW.out
      have hrc := hbr.cells
      have hxc := hbx.cells
      clear hbr hbx
      by_cases hkt : k < i
      · have hkti : (k : Int) < (i : Int) := by omega
        have hkn : k < n4 := by omega
        have hkni : (k : Int) < (n4 : Int) := by omega
        have hkl : k < es.length := by have := HN.out; omega
        obtain ⟨pv2, e2, hy⟩ := (HG.out.es.below (below_then HB2.out HW.out)).row k hkl
        cases e2
        obtain ⟨y, hyy⟩ : ∃ y, y = es.getD k ED.zero := ⟨_, rfl⟩
        have HY : Aside0 ((es.getD k ED.zero).id = y.id) := ⟨by rw [hyy]⟩
        rw [← hyy] at hy
        obtain ⟨yid, ylb, yf, yt, yA, yqs, yc⟩ := y
        obtain ⟨_, _, y0, y1, y2, y3, y4⟩ := hy
        simp only at y0
        have HYI := Aside0.mk HY.out
        have HJ := Aside0.mk (And.intro hkt (And.intro hg hkl))
        obtain ⟨GJ, hGJ⟩ : ∃ GJ, GJ = gk := ⟨_, rfl⟩
        have HGJ := Aside0.mk hGJ
        rw [← hGJ] at HJ
        clear hGJ hyy hk hg hkl y1 y2 y3 y4 HY
        go_upto_region 7 with (fail)
        by_cases he : yid = xid
        · have hre : RE = 42 := by
            rw [HREC.out, recErr, if_neg H44.out, if_pos (take_mono ED.id es _ (m := k + 1) HJ.out.1 ((take_step ED.id ED.zero es _ k HJ.out.2.2).2 (.inr (HYI.out.trans he))))]
          subst hre
          subst he
          go_quiet (fail)
          go_wp2
          go_ret
          exact ⟨rfl, below_then (below_then HB2.out HW.out) (by first | exact below_q _ | exact Below.refl _ _ | exact (Below.refl _ _).drew)⟩
        · have heb : (yid == xid) = false := by simp [he]
          have HF2 : Aside0 (¬ xid ∈ (es.take (k + 1)).map ED.id) := ⟨fun h => by
            rcases (take_step ED.id ED.zero es _ k HJ.out.2.2).1 h with h | h
            · exact HF.out h
            · exact he (HYI.out.symm.trans h)⟩
          go_quiet (fail)
          go_wp2
          go_roundg (GJ - 1)
          case measure => have := HJ.out; have := HGJ.out; omega
          case rel => exact ⟨k + 1, by have := HJ.out; omega, by have := HJ.out; omega, by first | rfl | go_num, HF2, ⟨below_then HW.out (by first | exact below_q _ | exact Below.refl _ _ | exact (Below.refl _ _).drew)⟩⟩
      · have hkn : k = i := by omega
        subst k
        obtain ⟨wd, rfl⟩ : ∃ wd : World, wd = wr := ⟨_, rfl⟩
        have HWD := HW
        have HFD := HF
        have HBD := Aside0.mk (below_then HB2.out HWD.out)
        have hty := HTY.out wd HBD.out
        clear HW HF hk hg hk0 hkt
        go_upto_region 10 with (go_at_call 31; go_loud (refine hty.mono ?_); rintro e W5 ⟨r, rfl, hans, hb5⟩)
        have HW5 := Aside0.mk (below_then HWD.out hb5)
        have HB5 := Aside0.mk (below_then HBD.out hb5)
        clear hty hrc hxc hb5
        obtain ⟨hbr, hbx⟩ := HBX.out W5 HW5.out
        have hrc := hbr.cells
        have hxc := hbx.cells
        clear hbr hbx
        rcases hans with ⟨hno, hr1⟩ | ⟨hyes, ti, hti, hr1, hte⟩
        · subst hr1
          have hre : RE = 45 := by rw [HREC.out, recErr, if_neg H44.out, if_neg HFD.out, if_pos hno]
          subst hre
          go_wp2
          go_ret
          exact ⟨rfl, HB5.out⟩
        · subst hr1
          have hti0 : (0 : Int) ≤ (ti : Int) := by omega
          have htin : ti < n2 := by have := HN.out; omega
          have htini : (ti : Int) < (n2 : Int) := by omega
          have htneg : ¬ (ti : Int) < 0 := by omega
          have HYES := Aside0.mk (And.intro hyes (And.intro hti hte))
          clear hyes hti hte
          have hat := HAT.out xf W5 HB5.out
          go_wp2_with (go_at_call 38; go_loud (refine hat.mono ?_))
          first
            | (intro e W6 r6 he ha6 hb6; subst he)
            | rintro e W6 ⟨r6, rfl, ha6, hb6⟩
          have HW6 := Aside0.mk (below_then HW5.out hb6)
          have HB6 := Aside0.mk (below_then HB5.out hb6)
          clear hat hrc hxc hb6
          obtain ⟨hbr, hbx⟩ := HBX.out W6 HW6.out
          have hrc := hbr.cells
          have hxc := hbx.cells
          clear hbr hbx
          rcases ha6 with ⟨hin6, hr6⟩ | ⟨hno6, hr6⟩
          · have hr6n : ¬ r6 < 0 := by omega
            have HIN6 := Aside0.mk hin6
            clear hin6
            have hat := HAT.out xt W6 HB6.out
            go_wp2_with (go_at_call 38; go_loud (refine hat.mono ?_))
            first
              | (intro e W7 r7 he ha7 hb6; subst he)
              | rintro e W7 ⟨r7, rfl, ha7, hb6⟩
            have HW7 := Aside0.mk (below_then HW6.out hb6)
            have HB7 := Aside0.mk (below_then HB6.out hb6)
            clear hat hrc hxc hb6
            obtain ⟨hbr, hbx⟩ := HBX.out W7 HW7.out
            have hrc := hbr.cells
            have hxc := hbx.cells
            clear hbr hbx
            rcases ha7 with ⟨hin7, hr7⟩ | ⟨hno7, hr7⟩
            · have hr7n : ¬ r7 < 0 := by omega
              have HEB : Aside0 (endsB (ns.map ND.id) ⟨xid, xlb, xf, xt, xA, xqs, xc⟩ = true) := ⟨by unfold endsB; simp only; rw [decide_eq_true HIN6.out, decide_eq_true hin7]; rfl⟩
              clear hin7
              obtain ⟨td, htd, _⟩ := HTR.out W7 HB7.out ti HYES.out.2.1
              subst htd
              obtain ⟨tt, htt⟩ : ∃ tt, tt = typeOf ets xlb.data.toList := ⟨_, rfl⟩
              have HPT := HPR.out tt (by rw [htt]; exact typeOf_mem HYES.out.1)
              obtain ⟨FB, hFB⟩ : ∃ FB, FB = fitsB tt.ps [] xqs := ⟨_, rfl⟩
              rw [← hFB] at HPT
              have HPT2 := Aside0.mk HPT
              have HFB : Aside0 (FB = fitsB (typeOf ets xlb.data.toList).ps [] xqs) := ⟨by rw [hFB, htt]⟩
              have hTT := htt.symm
              clear HPT hFB htt
              obtain ⟨ts_, tA, tp, tcc⟩ := tt
              simp only at HPT2
              go_upto_region 14 with (fail)
              clear hrc hxc
              refine wp_region_held_drew (S := (fun WW : World => Below W7.heap.size W7 WW)) (by kernel_rfl) ?_ (fun hHeld => ?_)
              · exact (by first | exact Below.refl _ _ | exact (Below.refl _ _).drew | exact (Below.refl _ _).drew.drew)
              refine take_in (i := 0) (v := ?v0d9) rfl (by kernel_rfl) (by kernel_rfl) (by kernel_rfl) (fun _ _ _ h => h) (by rfl) ?hy0d9 (by assumption) ?_
              case hy0d9 => intro WW hSw; go_simp; try with_reducible rfl
              try simp only [Act.put, List.setIfInBounds_toArray, List.set_cons_zero, List.set_cons_succ]
              refine take_in (i := 1) (v := .slice (some td) n2 ec) rfl (by kernel_rfl) (by kernel_rfl) (by kernel_rfl) (fun _ _ _ h => h) (by rfl) ?hy1d10 (by assumption) ?_
              case hy1d10 => intro WW hSw; obtain ⟨s1, s2⟩ := HBX.out WW (below_then HW7.out hSw); have s3 := s1.cells; have s4 := s2.cells; go_simp; try with_reducible rfl
              try simp only [Act.put, List.setIfInBounds_toArray, List.set_cons_zero, List.set_cons_succ]
              refine take_in (i := 2) (v := ?v2d11) rfl (by kernel_rfl) (by kernel_rfl) (by kernel_rfl) (fun _ _ _ h => h) (by rfl) ?hy2d11 (by assumption) ?_
              case hy2d11 => intro WW hSw; go_simp; try with_reducible rfl
              try simp only [Act.put, List.setIfInBounds_toArray, List.set_cons_zero, List.set_cons_succ]
              refine take_in (i := 3) (v := .pointer (some (td.add (ti * 2)))) rfl (by kernel_rfl) (by kernel_rfl) (by kernel_rfl) (fun _ _ _ h => h) (by rfl) ?hy3d12 (by assumption) ?_
              case hy3d12 => intro WW hSw; go_simp; try with_reducible rfl
              try simp only [Act.put, List.setIfInBounds_toArray, List.set_cons_zero, List.set_cons_succ]
              refine take_in (i := 4) (v := .agg #[.string ts_, .slice tA tp.length tcc]) rfl (by kernel_rfl) (by kernel_rfl) (by kernel_rfl) (fun _ _ _ h => h) (by rfl) ?hy4d13 (by assumption) ?_
              case hy4d13 => intro WW hSw; obtain ⟨td2, e2, s5⟩ := HTR.out WW (below_then HB7.out hSw) ti HYES.out.2.1; cases e2; rw [HYES.out.2.2, hTT] at s5; obtain ⟨_, _, t0, t1⟩ := s5; simp only at t0 t1; go_simp; try with_reducible rfl
              try simp only [Act.put, List.setIfInBounds_toArray, List.set_cons_zero, List.set_cons_succ]
              refine take_in (i := 5) (v := ?v5d14) rfl (by kernel_rfl) (by kernel_rfl) (by kernel_rfl) (fun _ _ _ h => h) (by rfl) ?hy5d14 (by assumption) ?_
              case hy5d14 => intro WW hSw; go_simp; try with_reducible rfl
              try simp only [Act.put, List.setIfInBounds_toArray, List.set_cons_zero, List.set_cons_succ]
              refine take_in (i := 6) (v := .slice xA xqs.length xc) rfl (by kernel_rfl) (by kernel_rfl) (by kernel_rfl) (fun _ _ _ h => h) (by rfl) ?hy6d15 (by assumption) ?_
              case hy6d15 => intro WW hSw; obtain ⟨s1, s2⟩ := HBX.out WW (below_then HW7.out hSw); have s3 := s1.cells; have s4 := s2.cells; go_simp; try with_reducible rfl
              try simp only [Act.put, List.setIfInBounds_toArray, List.set_cons_zero, List.set_cons_succ]
              refine name_world (F := fun X => Below W7.heap.size W7 X) (by assumption) (fun Z0 HZ0 => ?_)
              clear hHeld
              have hHeld : (fun WW : World => Below W7.heap.size W7 WW) Z0 := HZ0
              refine one_step (i := 7) (by kernel_rfl) rfl (fun K hK => ?_)
              have hs := HPT2.out Z0 (below_then HB7.out HZ0)
              go_simp
              go_at_call 37
              go_loud (refine hs.mono ?_)
              rintro e Z1 ⟨rfl, hb5⟩
              have HZ1 := below_then HZ0 hb5
              refine hK.out _ _ HZ1 (fun hHeld => ?_)
              clear hHeld hK K
              try simp only [Act.put, List.setIfInBounds_toArray, List.set_cons_zero, List.set_cons_succ]
              refine name_world (F := fun X => Below W7.heap.size W7 X) HZ1 (fun Z2 HZ2 => ?_)
              have hHeld : (fun WW : World => Below W7.heap.size W7 WW) Z2 := HZ2
              clear HZ1 hb5 HZ0 hs
              refine take_in (i := 8) (v := ?v8d16) rfl (by kernel_rfl) (by kernel_rfl) (by kernel_rfl) (fun _ _ _ h => h) (by rfl) ?hy8d16 (by assumption) ?_
              case hy8d16 => intro WW hSw; go_simp; try with_reducible rfl
              try simp only [Act.put, List.setIfInBounds_toArray, List.set_cons_zero, List.set_cons_succ]
              refine wpAnyH_done (by kernel_rfl) ?_ _
              have HBZ := Aside0.mk (below_then HB7.out HZ2)
              clear hTT HZ2
              cases FB with
              | true =>
                have hre : RE = 0 := by rw [HREC.out, recErr, if_neg H44.out, if_neg HFD.out, if_neg (fun h => h HYES.out.1), if_neg (by rw [HEB.out]; decide), ← HFB.out, if_neg (by decide)]
                subst hre
                go_wp2
                go_ret
                exact ⟨rfl, HBZ.out⟩
              | false =>
                have hre : RE = 47 := by rw [HREC.out, recErr, if_neg H44.out, if_neg HFD.out, if_neg (fun h => h HYES.out.1), if_neg (by rw [HEB.out]; decide), ← HFB.out, if_pos rfl]
                subst hre
                go_wp2
                go_ret
                exact ⟨rfl, HBZ.out⟩
            · subst hr7
              have hre : RE = 46 := by rw [HREC.out, recErr, if_neg H44.out, if_neg HFD.out, if_neg (fun h => h HYES.out.1), if_pos (by unfold endsB; simp only; rw [decide_eq_false hno7, Bool.and_false])]
              subst hre
              go_wp2
              go_ret
              exact ⟨rfl, HB7.out⟩
          · subst hr6
            have hre : RE = 46 := by rw [HREC.out, recErr, if_neg H44.out, if_neg HFD.out, if_neg (fun h => h HYES.out.1), if_pos (by unfold endsB; simp only; rw [decide_eq_false hno6, Bool.false_and])]
            subst hre
            go_wp2
            go_ret
            exact ⟨rfl, HB6.out⟩
end Go.Proofs.YtffifhinhemkdaaDoor
