/- The document's Check. -/
import Derived.Test.YtffifhinhemkdaaDoorRkD
set_option linter.unusedVariables false
set_option linter.unusedSimpArgs false
namespace Go.Proofs.YtffifhinhemkdaaDoor
open Go.RowKit Go.Maps

structure RkI (w : World) (br bp : Nat) (R : Array Value) (W : World) : Prop where
  lo : w.heap.size ≤ bp
  below : Below w.heap.size w W
  raw : GBox W br R
  place : PBox W bp #[.int .i64 0, .int .i64 0]
theorem pbox_below {W W' : World} {b : Nat} {cs : Array Value} (h : PBox W b cs) (hb : Below W.heap.size W W') : PBox W' b cs := (hb.block b h.lt).trans h
theorem RkI.below_ {w W W' : World} {br bp : Nat} {R : Array Value} (h : RkI w br bp R W) (hb : Below W.heap.size W W') : RkI w br bp R W' := ⟨h.lo, below_then h.below hb, gbox_below h.raw hb, pbox_below h.place hb⟩
set_option maxRecDepth 100000 in
set_option maxHeartbeats 12800000 in
theorem rcheck_any (g : GD) (w : World) (hg : ReadsG w g) (hN1 : g.nts.length ≤ 4000000000000) (hN2 : g.ets.length ≤ 4000000000000) (hT : Lib.Utf8Tabs 0 1 w) (hTB : ∀ W W', Below W.heap.size W W' → Lib.Utf8Tabs 0 1 W → Lib.Utf8Tabs 0 1 W') :
    Calls Tryd.prog 9 #[g.val] w fun e w' => e = .returned (.tuple #[.agg #[.int .i64 (checkR g.nts g.ets g.ns g.es).1, .int .i64 ((checkR g.nts g.ets g.ns g.es).2.1 : Int)], .int .i64 (checkR g.nts g.ets g.ns g.es).2.2]) ∧ Below w.heap.size w w' := by
  have HY1 : Aside0 (∀ W, Below w.heap.size w W → Calls Tryd.prog 18 #[.slice g.NA g.nts.length g.nc] W fun e w' => e = .returned (.tuple #[.int .i64 (((declR [] 0 g.nts).getD (0, 0)).1 : Int), .int .i64 ((declR [] 0 g.nts).getD (0, 0)).2]) ∧ Below W.heap.size W w') := ⟨fun W h => types_any g.NA g.nts g.nc W (hg.below h).nts (hTB _ _ h hT) hN1 hTB⟩
  have HY2 : Aside0 (∀ W, Below w.heap.size w W → Calls Tryd.prog 18 #[.slice g.EA g.ets.length g.ec] W fun e w' => e = .returned (.tuple #[.int .i64 (((declR [] 0 g.ets).getD (0, 0)).1 : Int), .int .i64 ((declR [] 0 g.ets).getD (0, 0)).2]) ∧ Below W.heap.size W w') := ⟨fun W h => types_any g.EA g.ets g.ec W (hg.below h).ets (hTB _ _ h hT) hN2 hTB⟩
  have HY3 : Aside0 (declR [] 0 g.nts = none → ∀ (i : Nat), i < g.ns.length → ∀ W, Below w.heap.size w W → Calls Tryd.prog 19 #[g.val, .int .i64 (i : Int)] W fun e w' => e = .returned (.int .i64 (recErr g.nts ((g.ns.take i).map ND.id) (g.ns.getD i ND.zero).id (g.ns.getD i ND.zero).key (g.ns.getD i ND.zero).qs true)) ∧ Below W.heap.size W w') := ⟨fun hd i hi W h => node_any g W i (hg.below h) hi (declR_props _ _ _ hd) (hTB _ _ h hT) hTB⟩
  have HY4 : Aside0 (declR [] 0 g.ets = none → ∀ (i : Nat), i < g.es.length → ∀ W, Below w.heap.size w W → Calls Tryd.prog 20 #[g.val, .int .i64 (i : Int)] W fun e w' => e = .returned (.int .i64 (recErr g.ets ((g.es.take i).map ED.id) (g.es.getD i ED.zero).id (g.es.getD i ED.zero).key (g.es.getD i ED.zero).qs (endsB (g.ns.map ND.id) (g.es.getD i ED.zero)))) ∧ Below W.heap.size W w') := ⟨fun hd i hi W h => edge_any g W i (hg.below h) hi (declR_props _ _ _ hd) (hTB _ _ h hT) hTB⟩
  have h39 := hg.ns.len
  have h49 := hg.es.len
  clear hg hN1 hN2 hT hTB
  obtain ⟨NA, nts, nc, EA, ets, ec, VA, ns, vc, UA, es, uc⟩ := g
  simp only [GD.val] at HY1 HY2 HY3 HY4 h39 h49 ⊢
  obtain ⟨CR, hCR⟩ : ∃ CR, CR = checkR nts ets ns es := ⟨_, rfl⟩
  rw [← hCR]
  have HCR := Aside0.mk hCR
  obtain ⟨n1, hn1⟩ : ∃ n1, n1 = nts.length := ⟨_, rfl⟩
  obtain ⟨n2, hn2⟩ : ∃ n2, n2 = ets.length := ⟨_, rfl⟩
  obtain ⟨n3, hn3⟩ : ∃ n3, n3 = ns.length := ⟨_, rfl⟩
  obtain ⟨n4, hn4⟩ : ∃ n4, n4 = es.length := ⟨_, rfl⟩
  rw [← hn3] at h39
  rw [← hn4] at h49
  have h39i : (n3 : Int) ≤ 9223372036854775807 := by omega
  have h49i : (n4 : Int) ≤ 9223372036854775807 := by omega
  rw [← hn1] at HY1 HY3 HY4
  rw [← hn2] at HY2 HY3 HY4
  rw [← hn3] at HY3 HY4
  rw [← hn4] at HY3 HY4
  rw [← hn1, ← hn2, ← hn3, ← hn4]
  have HN3 := Aside0.mk hn3
  have HN4 := Aside0.mk hn4
  clear hCR hn1 hn2 hn3 hn4 h39 h49
  go_enter Tryd.func9, Tryd.ntmps9
  go_upto_region 1 with (fail)
  obtain ⟨Wa, hWa⟩ : ∃ Wa, Wa = w.alloc (.cells #[.slice NA n1 nc, .slice EA n2 ec, .slice VA n3 vc, .slice UA n4 uc] 28) := ⟨_, rfl⟩
  obtain ⟨Wb, hWb⟩ : ∃ Wb, Wb = Wa.alloc (.cells #[.int .i64 0, .int .i64 0] 31) := ⟨_, rfl⟩
  have sa : Wa.heap.size = w.heap.size + 1 := by rw [hWa]; simp
  obtain ⟨br, hbr⟩ : ∃ br, br = w.heap.size := ⟨_, rfl⟩
  obtain ⟨bp, hbp⟩ : ∃ bp, bp = w.heap.size + 1 := ⟨_, rfl⟩
  have HB : Aside0 (RkI w br bp #[.slice NA n1 nc, .slice EA n2 ec, .slice VA n3 vc, .slice UA n4 uc] Wb) := ⟨by
    refine ⟨by omega, ?_, ?_, ?_⟩
    · rw [hWb, hWa]
      exact below_more (below_more (Below.refl _ _) _) _
    · unfold GBox
      rw [hbr, hWb, heap_alloc_old _ _ (by omega), hWa]
      exact heap_alloc_new w _
    · unfold PBox
      rw [hbp, hWb, ← sa]
      exact heap_alloc_new Wa _⟩
  rw [← hWa, ← hWb, ← hbp, ← hbr]
  clear hWa hWb sa hbr hbp
  have hd := HY1.out _ HB.out.below
  have hrc := HB.out.raw.cells
  cases hD1 : declR [] 0 nts with
  | some p =>
    obtain ⟨i, er⟩ := p
    have HER : Aside0 (CR = (1, i, er)) := ⟨by rw [HCR.out, checkR, hD1]⟩
    have her : ¬ er = 0 := declR_err nts [] 0 i er hD1
    rw [hD1] at hd
    simp only [Option.getD_some] at hd
    clear hD1
    go_upto_region 2 with (go_at_call 18; go_loud (refine hd.mono ?_); (first | (intro e W3 he hb5; subst he) | rintro e W3 ⟨rfl, hb5⟩))
    have HI1 := Aside0.mk (HB.out.below_ hb5)
    clear hb5 hd hrc
    have hpc := HI1.out.place.cells
    have hpf := HI1.out.place.free
    have HBP : Aside0 (w.heap.size ≤ bp) := ⟨HI1.out.lo⟩
    go_wp2
    refine bodyPost_ret (results_place rfl rfl rfl ((HI1.out.place.put 0 _).put 1 _) rfl) rfl ?_
    rw [HER.out]
    exact ⟨rfl, below_set (below_set HI1.out.below (p := ⟨bp, 0, none⟩) HBP.out _) (p := ⟨bp, 1, none⟩) HBP.out _⟩
  | none =>
    have HD1 := Aside0.mk hD1
    rw [hD1] at hd
    simp only [Option.getD_none] at hd
    clear hD1
    go_upto_region 2 with (go_at_call 18; go_loud (refine hd.mono ?_); (first | (intro e W3 he hb5; subst he) | rintro e W3 ⟨rfl, hb5⟩))
    have HI1 := Aside0.mk (HB.out.below_ hb5)
    clear hb5 hd hrc
    have hd := HY2.out _ HI1.out.below
    have hrc := HI1.out.raw.cells
    cases hD2 : declR [] 0 ets with
    | some p =>
      obtain ⟨i, er⟩ := p
      have HER : Aside0 (CR = (2, i, er)) := ⟨by rw [HCR.out, checkR, HD1.out, hD2]⟩
      have her : ¬ er = 0 := declR_err ets [] 0 i er hD2
      rw [hD2] at hd
      simp only [Option.getD_some] at hd
      clear hD2
      go_upto_region 5 with (go_at_call 18; go_loud (refine hd.mono ?_); (first | (intro e W4 he hb5; subst he) | rintro e W4 ⟨rfl, hb5⟩))
      have HI2 := Aside0.mk (HI1.out.below_ hb5)
      clear hb5 hd hrc
      have hpc := HI2.out.place.cells
      have hpf := HI2.out.place.free
      have HBP : Aside0 (w.heap.size ≤ bp) := ⟨HI2.out.lo⟩
      go_wp2
      refine bodyPost_ret (results_place rfl rfl rfl ((HI2.out.place.put 0 _).put 1 _) rfl) rfl ?_
      rw [HER.out]
      exact ⟨rfl, below_set (below_set HI2.out.below (p := ⟨bp, 0, none⟩) HBP.out _) (p := ⟨bp, 1, none⟩) HBP.out _⟩
    | none =>
      have HD2 := Aside0.mk hD2
      rw [hD2] at hd
      simp only [Option.getD_none] at hd
      clear hD2
      go_upto_region 5 with (go_at_call 18; go_loud (refine hd.mono ?_); (first | (intro e W4 he hb5; subst he) | rintro e W4 ⟨rfl, hb5⟩))
      have HI2 := Aside0.mk (HI1.out.below_ hb5)
      clear hb5 hd hrc
      obtain ⟨NR3, hNR⟩ : ∃ NR, NR = nodeR nts [] 0 ns := ⟨_, rfl⟩
      have HNR3 := Aside0.mk hNR
      clear hNR
      obtain ⟨V3, hV⟩ : ∃ V, V = W4 := ⟨_, rfl⟩
      rw [← hV] at HI2 ⊢
      clear hV
      go_wp2
      go_loopg [5, 6] (n3 + 1) (fun gg s5 s6 wx => ∃ (j : Nat), j ≤ n3 ∧ n3 < gg + j ∧ s6 = .int .i64 j ∧ Aside0 (nodeR nts ((ns.take j).map ND.id) j (ns.drop j) = NR3) ∧ Aside0 (Below V3.heap.size V3 wx))
      case atStart => exact ⟨0, by omega, by omega, rfl, ⟨HNR3.out.symm⟩, ⟨Below.refl _ _⟩⟩
      case round =>
        obtain ⟨j, hj, hg, rfl, HF, HX⟩ := hrel
        have hj0 : (0 : Int) ≤ (j : Int) := by omega
        have HIX := Aside0.mk (HI2.out.below_ HX.out)
        have hrc := HIX.out.raw.cells
        by_cases hjt : j < n3
        · have hjti : (j : Int) < (n3 : Int) := by omega
          have hjl : j < ns.length := by have := HN3.out; omega
          have hda := nodeR_at nts ns j hjl
          rw [HF.out] at hda
          have hrx := HY3.out HD1.out j hjt wr HIX.out.below
          obtain ⟨er, her⟩ : ∃ er, er = recErr nts ((ns.take j).map ND.id) (ns.getD j ND.zero).id (ns.getD j ND.zero).key (ns.getD j ND.zero).qs true := ⟨_, rfl⟩
          rw [← her] at hrx hda
          have HDA := Aside0.mk hda
          have HJ := Aside0.mk (And.intro hjt (And.intro hg hjl))
          obtain ⟨GJ, hGJ⟩ : ∃ GJ, GJ = gk := ⟨_, rfl⟩
          have HGJ := Aside0.mk hGJ
          rw [← hGJ] at HJ
          clear hGJ hj hg hjl her hda
          go_upto_region 11 with (go_at_call 19; go_loud (refine hrx.mono ?_); (first | (intro e W5 he hb5; subst he) | rintro e W5 ⟨rfl, hb5⟩))
          have HI5 := Aside0.mk (HIX.out.below_ hb5)
          have HX5 := Aside0.mk (below_then HX.out hb5)
          clear hb5 hrx hrc
          by_cases he : er = 0
          · subst he
            have HF2 : Aside0 (nodeR nts ((ns.take (j + 1)).map ND.id) (j + 1) (ns.drop (j + 1)) = NR3) := ⟨by have h := HDA.out; rw [if_pos rfl] at h; exact h.symm⟩
            go_wp2
            go_roundg (GJ - 1)
            case measure => have := HJ.out; have := HGJ.out; omega
            case rel => exact ⟨j + 1, by have := HJ.out; omega, by have := HJ.out; omega, by first | rfl | go_num, HF2, HX5⟩
          · have heb : (er == 0) = false := by simp [he]
            have HER : Aside0 (CR = (3, j, er)) := ⟨by
              have h := HDA.out
              rw [if_neg he] at h
              have h2 := HNR3.out
              rw [HCR.out, checkR, HD1.out, HD2.out]
              try simp only
              rw [← h2, h]⟩
            have hpc := HI5.out.place.cells
            have hpf := HI5.out.place.free
            have HBP : Aside0 (w.heap.size ≤ bp) := ⟨HI5.out.lo⟩
            go_wp2
            refine bodyPost_ret (results_place rfl rfl rfl ((HI5.out.place.put 0 _).put 1 _) rfl) rfl ?_
            rw [HER.out]
            exact ⟨rfl, below_set (below_set HI5.out.below (p := ⟨bp, 0, none⟩) HBP.out _) (p := ⟨bp, 1, none⟩) HBP.out _⟩
        · have hjn : j = n3 := by omega
          subst j
          have HNN3 : Aside0 (nodeR nts [] 0 ns = none) := ⟨by
            have h := HF.out
            rw [HN3.out, List.drop_length] at h
            rw [← HNR3.out, ← h]
            rfl⟩
          clear HF HX hj hg hj0 hjt
          obtain ⟨wn, rfl⟩ : ∃ wn : World, wn = wr := ⟨_, rfl⟩
          have HIN := HIX
          clear HIX
          obtain ⟨NR4, hNR⟩ : ∃ NR, NR = edgeR ets (ns.map ND.id) [] 0 es := ⟨_, rfl⟩
          have HNR4 := Aside0.mk hNR
          clear hNR
          obtain ⟨V4, hV⟩ : ∃ V, V = wn := ⟨_, rfl⟩
          rw [← hV] at HIN hrc ⊢
          clear hV
          go_upto_region 13 with (fail)
          go_wp2
          clear hrc
          go_loopg [5, 7] (n4 + 1) (fun gg s5 s7 wx => ∃ (j : Nat), j ≤ n4 ∧ n4 < gg + j ∧ s7 = .int .i64 j ∧ Aside0 (edgeR ets (ns.map ND.id) ((es.take j).map ED.id) j (es.drop j) = NR4) ∧ Aside0 (Below V4.heap.size V4 wx))
          case atStart => exact ⟨0, by omega, by omega, rfl, ⟨HNR4.out.symm⟩, ⟨Below.refl _ _⟩⟩
          case round =>
            obtain ⟨j, hj, hg, rfl, HF, HX⟩ := hrel
            have hj0 : (0 : Int) ≤ (j : Int) := by omega
            have HIX := Aside0.mk (HIN.out.below_ HX.out)
            have hrc := HIX.out.raw.cells
            by_cases hjt : j < n4
            · have hjti : (j : Int) < (n4 : Int) := by omega
              have hjl : j < es.length := by have := HN4.out; omega
              have hda := edgeR_at ets (ns.map ND.id) es j hjl
              rw [HF.out] at hda
              have hrx := HY4.out HD2.out j hjt wr HIX.out.below
              obtain ⟨er, her⟩ : ∃ er, er = recErr ets ((es.take j).map ED.id) (es.getD j ED.zero).id (es.getD j ED.zero).key (es.getD j ED.zero).qs (endsB (ns.map ND.id) (es.getD j ED.zero)) := ⟨_, rfl⟩
              rw [← her] at hrx hda
              have HDA := Aside0.mk hda
              have HJ := Aside0.mk (And.intro hjt (And.intro hg hjl))
              obtain ⟨GJ, hGJ⟩ : ∃ GJ, GJ = gk := ⟨_, rfl⟩
              have HGJ := Aside0.mk hGJ
              rw [← hGJ] at HJ
              clear hGJ hj hg hjl her hda
              go_upto_region 17 with (go_at_call 20; go_loud (refine hrx.mono ?_); (first | (intro e W5 he hb5; subst he) | rintro e W5 ⟨rfl, hb5⟩))
              have HI5 := Aside0.mk (HIX.out.below_ hb5)
              have HX5 := Aside0.mk (below_then HX.out hb5)
              clear hb5 hrx hrc
              by_cases he : er = 0
              · subst he
                have HF2 : Aside0 (edgeR ets (ns.map ND.id) ((es.take (j + 1)).map ED.id) (j + 1) (es.drop (j + 1)) = NR4) := ⟨by have h := HDA.out; rw [if_pos rfl] at h; exact h.symm⟩
                go_wp2
                go_roundg (GJ - 1)
                case measure => have := HJ.out; have := HGJ.out; omega
                case rel => exact ⟨j + 1, by have := HJ.out; omega, by have := HJ.out; omega, by first | rfl | go_num, HF2, HX5⟩
              · have heb : (er == 0) = false := by simp [he]
                have HER : Aside0 (CR = (4, j, er)) := ⟨by
                  have h := HDA.out
                  rw [if_neg he] at h
                  have h2 := HNR4.out
                  rw [HCR.out, checkR, HD1.out, HD2.out, HNN3.out]
                  try simp only
                  rw [← h2, h]⟩
                have hpc := HI5.out.place.cells
                have hpf := HI5.out.place.free
                have HBP : Aside0 (w.heap.size ≤ bp) := ⟨HI5.out.lo⟩
                go_wp2
                refine bodyPost_ret (results_place rfl rfl rfl ((HI5.out.place.put 0 _).put 1 _) rfl) rfl ?_
                rw [HER.out]
                exact ⟨rfl, below_set (below_set HI5.out.below (p := ⟨bp, 0, none⟩) HBP.out _) (p := ⟨bp, 1, none⟩) HBP.out _⟩
            · have hjn : j = n4 := by omega
              subst j
              have HNN4 : Aside0 (edgeR ets (ns.map ND.id) [] 0 es = none) := ⟨by
                have h := HF.out
                rw [HN4.out, List.drop_length] at h
                rw [← HNR4.out, ← h]
                rfl⟩
              clear HF HX hj hg hj0 hjt
              have HER : Aside0 (CR = (0, 0, 0)) := ⟨by rw [HCR.out, checkR, HD1.out, HD2.out]; simp only; rw [HNN3.out]; simp only; rw [HNN4.out]⟩
              have hpc := HIX.out.place.cells
              have hpf := HIX.out.place.free
              have HBP : Aside0 (w.heap.size ≤ bp) := ⟨HIX.out.lo⟩
              go_wp2
              refine bodyPost_ret (results_place rfl rfl rfl ((HIX.out.place.put 0 _).put 1 _) rfl) rfl ?_
              rw [HER.out]
              exact ⟨rfl, below_set (below_set HIX.out.below (p := ⟨bp, 0, none⟩) HBP.out _) (p := ⟨bp, 1, none⟩) HBP.out _⟩
end Go.Proofs.YtffifhinhemkdaaDoor
