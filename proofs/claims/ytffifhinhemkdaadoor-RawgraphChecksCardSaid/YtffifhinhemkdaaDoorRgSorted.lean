/- rawgraph.Sorted of anything. -/
import Derived.Test.YtffifhinhemkdaaDoorRgPl3
import Derived.Test.YtffifhinhemkdaaDoorRgChk
import Derived.Shelf.SlSortCmp.NoneTotal
set_option linter.unusedVariables false
set_option linter.unusedSimpArgs false
namespace Go.Proofs.YtffifhinhemkdaaDoor
open Go.RowKit Go.Shelf Go.Lib Go.Sort

theorem results_raw {fn : Func} {tmps : Array Value} {W : World} {b : Nat} {cs : Array Value} {v : Value} (h : fn.results = #[.cell 2 28, .tmp 3]) (h4 : tmps.getD 2 undef = .pointer (some ⟨b, 0, none⟩)) (h3 : tmps.getD 3 undef = v) (hb : GBox W b cs) (hc : cs.size = 4) :
    (results fn tmps).run Tryd.prog W = .ok (.tuple #[.agg cs, v]) W := by
  have hi : (Tryd.prog.info? 28).map (·.size) = some cs.size := by rw [hc]; kernel_rfl
  have hl := run_loadVar_row (P := Tryd.prog) W b 28 28 cs (0, 0) _ hb Tryd.underlying28 rfl hi
  have h5 := h4
  have h6 := h3
  rw [Array.getD_eq_getD_getElem?] at h5 h6
  simp [results, h, h5, h6, asAddr, hl, Result.andThen]
theorem sort_any_N (W : World) (B n c : Nat) (A : Option Addr) (l : List ND) (hn : n = l.length) (ho : W.ownsRow B 52 3 (.slice A n c) n (l.flatMap cellsND)) (hsz : n < 4611686018427387904) :
    Calls Tryd.prog 25 #[.slice A n c, .func (.func 26) #[] #[]] W fun e w' => e = .returned (.tuple #[]) ∧ ∃ l2 : List ND, l2.Perm l ∧ l2.Pairwise (fun a b => a.id ≤ b.id) ∧ w'.ownsRow B 52 3 (.slice A n c) n (l2.flatMap cellsND) ∧ W.grownBy w' (Value.slice A n c).ownBlock := by
  rcases ho.2 with ⟨e, e2⟩ | ⟨g, cap, cur, e, _⟩
  · cases e
    have h0 : l = [] := List.length_eq_zero_iff.1 hn.symm
    subst h0
    have hcon := AnyF.slices_SortFunc_none { Tryd.sortN with } none 0 (.func (.func 26) #[] #[]) W
    change Calls Tryd.prog 25 _ _ _ at hcon
    refine hcon.mono ?_
    rintro e w' ⟨rfl, rfl⟩
    exact ⟨rfl, [], List.Perm.refl _, List.Pairwise.nil, ho, World.grownBy.refl _ _⟩
  · cases e
    exact sort_N W B g n c l hn ho hsz
theorem sort_any_E (W : World) (B n c : Nat) (A : Option Addr) (l : List ED) (hn : n = l.length) (ho : W.ownsRow B 55 5 (.slice A n c) n (l.flatMap cellsED)) (hsz : n < 4611686018427387904) :
    Calls Tryd.prog 28 #[.slice A n c, .func (.func 29) #[] #[]] W fun e w' => e = .returned (.tuple #[]) ∧ ∃ l2 : List ED, l2.Perm l ∧ l2.Pairwise (fun a b => a.id ≤ b.id) ∧ w'.ownsRow B 55 5 (.slice A n c) n (l2.flatMap cellsED) ∧ W.grownBy w' (Value.slice A n c).ownBlock := by
  rcases ho.2 with ⟨e, e2⟩ | ⟨g, cap, cur, e, _⟩
  · cases e
    have h0 : l = [] := List.length_eq_zero_iff.1 hn.symm
    subst h0
    have hcon := AnyF.slices_SortFunc_none { Tryd.sortE with } none 0 (.func (.func 29) #[] #[]) W
    change Calls Tryd.prog 28 _ _ _ at hcon
    refine hcon.mono ?_
    rintro e w' ⟨rfl, rfl⟩
    exact ⟨rfl, [], List.Perm.refl _, List.Pairwise.nil, ho, World.grownBy.refl _ _⟩
  · cases e
    exact sort_E W B g n c l hn ho hsz
/-- The same graph, its records in order, in memory of the call's own. -/
structure SortedG (w : World) (g : GD) (W : World) (g2 : GD) : Prop where
  reads : ReadsG W g2
  nts : g2.nts.map TD.con = g.nts.map TD.con
  ets : g2.ets.map TD.con = g.ets.map TD.con
  ns : (g2.ns.map ND.con).Perm (g.ns.map (toldN g.nts))
  es : (g2.es.map ED.con).Perm (g.es.map (toldE g.ets))
  nsort : g2.ns.Pairwise (fun a b => a.id ≤ b.id)
  esort : g2.es.Pairwise (fun a b => a.id ≤ b.id)
  nil3 : g2.VA = none → g2.vc = 0
  nil4 : g2.UA = none → g2.uc = 0
def SortedA (g : GD) (w : World) (e : Ending) (w' : World) : Prop :=
  Below w.heap.size w w' ∧ ((¬ (checkR g.nts g.ets g.ns g.es).2.2 = 0 ∧ e = .returned (.tuple #[.agg #[.slice none 0 0, .slice none 0 0, .slice none 0 0, .slice none 0 0], .int .i64 (checkR g.nts g.ets g.ns g.es).2.2])) ∨ ((checkR g.nts g.ets g.ns g.es).2.2 = 0 ∧ ∃ g2, e = .returned (.tuple #[g2.val, .int .i64 0]) ∧ SortedG w g w' g2))
set_option maxRecDepth 100000 in
set_option maxHeartbeats 25600000 in
theorem sorted_any (g : GD) (w : World) (hg : ReadsG w g) (hN : g.nts.length ≤ 4000000000000 ∧ g.ets.length ≤ 4000000000000 ∧ g.ns.length ≤ 2932031007401 ∧ g.es.length ≤ 2199023255551) :
    Calls Tryd.prog 10 #[g.val] w fun e w' => SortedA g w e w' := by
  have HCK : Aside0 (∀ W, Below w.heap.size w W → Calls Tryd.prog 8 #[g.val] W fun e w' => e = .returned (.tuple #[.agg #[.int .i64 (checkR g.nts g.ets g.ns g.es).1, .int .i64 ((checkR g.nts g.ets g.ns g.es).2.1 : Int)], .int .i64 (checkR g.nts g.ets g.ns g.es).2.2]) ∧ Below W.heap.size W w') := ⟨fun W h => check_any g.nts g.ets g.ns g.es g.NA g.EA g.VA g.UA g.nc g.ec g.vc g.uc W (hg.below h).nts (hg.below h).ets (hg.below h).ns (hg.below h).es hN.1 hN.2.1⟩
  have HFI : Aside0 ((checkR g.nts g.ets g.ns g.es).2.2 = 0 → FineG g.nts g.ets g.ns g.es) := ⟨check_fine⟩
  have HG := Aside0.mk hg
  obtain ⟨NA, nts, nc, EA, ets, ec, VA, ns, vc, UA, es, uc⟩ := g
  simp only [GD.val] at HCK ⊢
  simp only at HFI hN
  have HGOAL : Aside0 (∀ e w', SortedA ⟨NA, nts, nc, EA, ets, ec, VA, ns, vc, UA, es, uc⟩ w e w' = SortedA ⟨NA, nts, nc, EA, ets, ec, VA, ns, vc, UA, es, uc⟩ w e w') := ⟨fun _ _ => rfl⟩
  obtain ⟨CR, hCR⟩ : ∃ CR, CR = checkR nts ets ns es := ⟨_, rfl⟩
  have HCR := Aside0.mk hCR
  rw [← hCR] at HCK HFI
  obtain ⟨c1, c2, c3⟩ := CR
  simp only at HCK HFI
  obtain ⟨n1, hn1⟩ : ∃ n1, n1 = nts.length := ⟨_, rfl⟩
  obtain ⟨n2, hn2⟩ : ∃ n2, n2 = ets.length := ⟨_, rfl⟩
  obtain ⟨n3, hn3⟩ : ∃ n3, n3 = ns.length := ⟨_, rfl⟩
  obtain ⟨n4, hn4⟩ : ∃ n4, n4 = es.length := ⟨_, rfl⟩
  rw [← hn1, ← hn2, ← hn3, ← hn4] at HCK hN ⊢
  have HN := Aside0.mk (And.intro hn1 (And.intro hn2 (And.intro hn3 hn4)))
  clear hn1 hn2 hn3 hn4 hCR hg HGOAL
  go_enter Tryd.func10, Tryd.ntmps10
  go_upto_region 1 with (fail)
  obtain ⟨Wa, hWa⟩ : ∃ Wa, Wa = w.alloc (.cells #[.slice NA n1 nc, .slice EA n2 ec, .slice VA n3 vc, .slice UA n4 uc] 28) := ⟨_, rfl⟩
  obtain ⟨W1, hW1⟩ : ∃ W1, W1 = Wa.alloc (.cells #[.slice none 0 0, .slice none 0 0, .slice none 0 0, .slice none 0 0] 28) := ⟨_, rfl⟩
  obtain ⟨br, hbr⟩ : ∃ br, br = w.heap.size := ⟨_, rfl⟩
  obtain ⟨bz, hbz⟩ : ∃ bz, bz = w.heap.size + 1 := ⟨_, rfl⟩
  have sa : Wa.heap.size = w.heap.size + 1 := by rw [hWa]; simp
  have HR1 : Aside0 (GBox W1 br #[.slice NA n1 nc, .slice EA n2 ec, .slice VA n3 vc, .slice UA n4 uc]) := ⟨by
    unfold GBox
    rw [hbr, hW1, heap_alloc_old _ _ (by omega), hWa]
    exact heap_alloc_new w _⟩
  have HZ1 : Aside0 (GBox W1 bz #[.slice none 0 0, .slice none 0 0, .slice none 0 0, .slice none 0 0]) := ⟨by
    unfold GBox
    rw [hbz, hW1, ← sa]
    exact heap_alloc_new Wa _⟩
  have HB1 : Aside0 (Below w.heap.size w W1) := ⟨by rw [hW1, hWa]; exact below_more (below_more (Below.refl _ _) _) _⟩
  have HBZ : Aside0 (w.heap.size ≤ br ∧ br < bz) := ⟨by omega⟩
  rw [← hWa, ← hW1, ← hbz, ← hbr]
  clear hWa hW1 hbr hbz sa
  have hck := HCK.out W1 HB1.out
  have hrc := HR1.out.cells
  go_upto_region 2 with (go_at_call 8; go_loud (refine hck.mono ?_); first | (intro e W2 he hb2; subst he) | rintro e W2 ⟨rfl, hb2⟩)
  obtain ⟨W3, hW3⟩ : ∃ W3, W3 = W2.alloc (.cells #[.int .i64 c1, .int .i64 (c2 : Int)] 31) := ⟨_, rfl⟩
  have hb13 : Below W1.heap.size W1 W3 := by rw [hW3]; exact below_more hb2 _
  have HR3 : Aside0 (GBox W3 br #[.slice NA n1 nc, .slice EA n2 ec, .slice VA n3 vc, .slice UA n4 uc]) := ⟨(hb13.block br (Array.getElem?_eq_some_iff.1 HR1.out).1).trans HR1.out⟩
  have HZ3 : Aside0 (GBox W3 bz #[.slice none 0 0, .slice none 0 0, .slice none 0 0, .slice none 0 0]) := ⟨(hb13.block bz (Array.getElem?_eq_some_iff.1 HZ1.out).1).trans HZ1.out⟩
  have HBW3 : Aside0 (Below w.heap.size w W3) := ⟨below_then HB1.out hb13⟩
  have HBR : Aside0 (br < W3.heap.size) := ⟨(Array.getElem?_eq_some_iff.1 HR3.out).1⟩
  have HBZ3 : Aside0 (bz < W3.heap.size) := ⟨(Array.getElem?_eq_some_iff.1 HZ3.out).1⟩
  rw [← hW3]
  clear hW3 hb13 hb2 hck hrc HR1 HZ1 HB1
  by_cases hc3 : c3 = 0
  · subst hc3
    have HF : Aside0 (FineG nts ets ns es) := ⟨HFI.out (by first | rfl | trivial)⟩
    have HCT1 : Aside0 (∀ W, Below w.heap.size w W → Calls Tryd.prog 21 #[.slice NA n1 nc] W fun e w' => ∃ v ts2, e = .returned v ∧ ClonedI W nts v w' ts2) := ⟨fun W h => by
      have hh := cloned_any NA nts nc W (HG.out.below h).nts (by have := HF.out.nt.1; omega) (fun t ht => by have := HF.out.nt.2 t ht; omega)
      rw [← HN.out.1] at hh
      exact hh⟩
    have HCT2 : Aside0 (∀ W, Below w.heap.size w W → Calls Tryd.prog 21 #[.slice EA n2 ec] W fun e w' => ∃ v ts2, e = .returned v ∧ ClonedI W ets v w' ts2) := ⟨fun W h => by
      have hh := cloned_any EA ets ec W (HG.out.below h).ets (by have := HF.out.et.1; omega) (fun t ht => by have := HF.out.et.2 t ht; omega)
      rw [← HN.out.2.1] at hh
      exact hh⟩
    have HCN : Aside0 (∀ W, Below w.heap.size w W → Calls Tryd.prog 22 #[.slice VA n3 vc] W fun e w' => ∃ A2 c2, e = .returned (.slice A2 n3 c2) ∧ w'.ownsRow W.heap.size 52 3 (.slice A2 n3 c2) n3 (ns.flatMap cellsND) ∧ Below W.heap.size W w') := ⟨fun W h => by
      have hh := clone_N VA ns vc W (HG.out.below h).ns (by have := hN; have := HN.out; omega)
      rw [← HN.out.2.2.1] at hh
      exact hh⟩
    have HCE : Aside0 (∀ W, Below w.heap.size w W → Calls Tryd.prog 23 #[.slice UA n4 uc] W fun e w' => ∃ A2 c2, e = .returned (.slice A2 n4 c2) ∧ w'.ownsRow W.heap.size 55 5 (.slice A2 n4 c2) n4 (es.flatMap cellsED) ∧ Below W.heap.size W w') := ⟨fun W h => by
      have hh := clone_E UA es uc W (HG.out.below h).es (by have := hN; have := HN.out; omega)
      rw [← HN.out.2.2.2] at hh
      exact hh⟩
    go_upto_region 4 with (fail)
    go_cut [6] from 9999 (fun s6 X => ∃ bo B8 A1 k1 t1 A2 k2 t2 A3 k3 A4 k4, s6 = .pointer (some ⟨bo, 0, none⟩) ∧ Below w.heap.size w X ∧ GBox X bo #[.slice A1 n1 k1, .slice A2 n2 k2, .slice A3 n3 k3, .slice A4 n4 k4] ∧ W3.heap.size ≤ bo ∧ W3.heap.size ≤ B8 ∧ B8 ≤ X.heap.size ∧ (∀ k, k < W3.heap.size → X.heap[k]? = W3.heap[k]?) ∧ ZT B8 X A1 t1 ∧ t1.map TD.con = nts.map TD.con ∧ ZT B8 X A2 t2 ∧ t2.map TD.con = ets.map TD.con ∧ X.ownsRow B8 52 3 (.slice A3 n3 k3) n3 (ns.flatMap cellsND) ∧ X.ownsRow B8 55 5 (.slice A4 n4 k4) n4 (es.flatMap cellsED))
    case first =>
      refine wp_region_held_drew (S := (fun WW : World => GBox WW br #[.slice NA n1 nc, .slice EA n2 ec, .slice VA n3 vc, .slice UA n4 uc])) (by kernel_rfl) ?_ (fun hHeld => ?_)
      · exact HR3.out
      refine take_in (i := 0) (v := ?v0g23) rfl (by kernel_rfl) (by kernel_rfl) (by kernel_rfl) (fun _ _ _ h => h) (by rfl) ?hy0g23 (by assumption) ?_
      case hy0g23 => intro WW hSw; have h1 := GBox.cells hSw; go_simp; try with_reducible rfl
      try simp only [Act.put, List.setIfInBounds_toArray, List.set_cons_zero, List.set_cons_succ]
      refine take_in (i := 1) (v := ?v1g24) rfl (by kernel_rfl) (by kernel_rfl) (by kernel_rfl) (fun _ _ _ h => h) (by rfl) ?hy1g24 (by assumption) ?_
      case hy1g24 => intro WW hSw; have h1 := GBox.cells hSw; go_simp; try with_reducible rfl
      try simp only [Act.put, List.setIfInBounds_toArray, List.set_cons_zero, List.set_cons_succ]
      refine take_in (i := 3) (v := ?v3g25) rfl (by kernel_rfl) (by kernel_rfl) (by kernel_rfl) (fun _ _ _ h => h) (by rfl) ?hy3g25 (by assumption) ?_
      case hy3g25 => intro WW hSw; have h1 := GBox.cells hSw; go_simp; try with_reducible rfl
      try simp only [Act.put, List.setIfInBounds_toArray, List.set_cons_zero, List.set_cons_succ]
      refine take_in (i := 4) (v := ?v4g26) rfl (by kernel_rfl) (by kernel_rfl) (by kernel_rfl) (fun _ _ _ h => h) (by rfl) ?hy4g26 (by assumption) ?_
      case hy4g26 => intro WW hSw; have h1 := GBox.cells hSw; go_simp; try with_reducible rfl
      try simp only [Act.put, List.setIfInBounds_toArray, List.set_cons_zero, List.set_cons_succ]
      refine take_in (i := 6) (v := ?v6g27) rfl (by kernel_rfl) (by kernel_rfl) (by kernel_rfl) (fun _ _ _ h => h) (by rfl) ?hy6g27 (by assumption) ?_
      case hy6g27 => intro WW hSw; have h1 := GBox.cells hSw; go_simp; try with_reducible rfl
      try simp only [Act.put, List.setIfInBounds_toArray, List.set_cons_zero, List.set_cons_succ]
      refine take_in (i := 7) (v := ?v7g28) rfl (by kernel_rfl) (by kernel_rfl) (by kernel_rfl) (fun _ _ _ h => h) (by rfl) ?hy7g28 (by assumption) ?_
      case hy7g28 => intro WW hSw; have h1 := GBox.cells hSw; go_simp; try with_reducible rfl
      try simp only [Act.put, List.setIfInBounds_toArray, List.set_cons_zero, List.set_cons_succ]
      refine take_in (i := 9) (v := ?v9g29) rfl (by kernel_rfl) (by kernel_rfl) (by kernel_rfl) (fun _ _ _ h => h) (by rfl) ?hy9g29 (by assumption) ?_
      case hy9g29 => intro WW hSw; have h1 := GBox.cells hSw; go_simp; try with_reducible rfl
      try simp only [Act.put, List.setIfInBounds_toArray, List.set_cons_zero, List.set_cons_succ]
      refine take_in (i := 10) (v := ?v10g30) rfl (by kernel_rfl) (by kernel_rfl) (by kernel_rfl) (fun _ _ _ h => h) (by rfl) ?hy10g30 (by assumption) ?_
      case hy10g30 => intro WW hSw; have h1 := GBox.cells hSw; go_simp; try with_reducible rfl
      try simp only [Act.put, List.setIfInBounds_toArray, List.set_cons_zero, List.set_cons_succ]
      refine name_world (F := fun X => Below W3.heap.size W3 X) (by first | exact Below.refl _ _ | exact (Below.refl _ _).drew | exact (Below.refl _ _).drew.drew) (fun Y0 HBY0 => ?_)
      clear hHeld
      have hHeld : (fun WW : World => GBox WW br #[.slice NA n1 nc, .slice EA n2 ec, .slice VA n3 vc, .slice UA n4 uc]) Y0 := ((HBY0.block br HBR.out).trans HR3.out)
      refine two_step (i := 2) (j := 13) (by kernel_rfl) rfl rfl (fun K hK => ?_) (fun K hK => ?_)
      · go_simp
        go_at_call 21
        go_loud (refine (HCT1.out Y0 (below_then HBW3.out HBY0)).mono ?_)
        rintro e Z ⟨v, t1, rfl, hI⟩
        obtain ⟨A1, k1, hv, hrz⟩ := hI.slice HN.out.1 (by have := hN; omega)
        subst hv
        have hbz := hI.below
        have HC1 := Aside0.mk hI.con
        refine hK.out _ _ (((below_then HBY0 hbz).block br HBR.out).trans HR3.out) (fun hHeld => ?_)
        clear hHeld hK K
        try simp only [Act.put, List.setIfInBounds_toArray, List.set_cons_zero, List.set_cons_succ]
        refine name_world (F := fun X => Below W3.heap.size W3 X ∧ ReadsT X A1 t1) ⟨(below_then HBY0 hbz), hrz⟩ (fun Y1 hF => ?_)
        obtain ⟨HBY1, H1Y1⟩ := hF
        have hHeld : (fun WW : World => GBox WW br #[.slice NA n1 nc, .slice EA n2 ec, .slice VA n3 vc, .slice UA n4 uc]) Y1 := ((HBY1.block br HBR.out).trans HR3.out)
        clear hI hrz hbz
        clear HBY0
        refine two_step (i := 5) (j := 13) (by kernel_rfl) rfl rfl (fun K hK => ?_) (fun K hK => ?_)
        · go_simp
          go_at_call 21
          go_loud (refine (HCT2.out Y1 (below_then HBW3.out HBY1)).mono ?_)
          rintro e Z ⟨v, t2, rfl, hI⟩
          obtain ⟨A2, k2, hv, hrz⟩ := hI.slice HN.out.2.1 (by have := hN; omega)
          subst hv
          have hbz := hI.below
          have HC2 := Aside0.mk hI.con
          refine hK.out _ _ (((below_then HBY1 hbz).block br HBR.out).trans HR3.out) (fun hHeld => ?_)
          clear hHeld hK K
          try simp only [Act.put, List.setIfInBounds_toArray, List.set_cons_zero, List.set_cons_succ]
          refine name_world (F := fun X => Below W3.heap.size W3 X ∧ ReadsT X A1 t1 ∧ ReadsT X A2 t2) ⟨(below_then HBY1 hbz), (H1Y1.below hbz), hrz⟩ (fun Y2 hF => ?_)
          obtain ⟨HBY2, H1Y2, H2Y2⟩ := hF
          have hHeld : (fun WW : World => GBox WW br #[.slice NA n1 nc, .slice EA n2 ec, .slice VA n3 vc, .slice UA n4 uc]) Y2 := ((HBY2.block br HBR.out).trans HR3.out)
          clear hI hrz hbz
          clear HBY1 H1Y1
          refine two_step (i := 8) (j := 13) (by kernel_rfl) rfl rfl (fun K hK => ?_) (fun K hK => ?_)
          · go_simp
            have hcn := HCN.out Y2 (below_then HBW3.out HBY2)
            go_at_call 22
            go_loud (refine hcn.mono ?_)
            rintro e Z ⟨A3, k3, rfl, hoz, hbz⟩
            obtain ⟨B8, hB8⟩ : ∃ B8, B8 = Y2.heap.size := ⟨_, rfl⟩
            have HB8 : Aside0 (W3.heap.size ≤ B8) := ⟨by rw [hB8]; exact HBY2.size⟩
            have hz1 : ZT B8 Y2 A1 t1 := by rw [hB8]; exact ZT.of H1Y2
            have hz2 : ZT B8 Y2 A2 t2 := by rw [hB8]; exact ZT.of H2Y2
            rw [← hB8] at hoz
            have hk8 : ∀ k, k < B8 → Z.heap[k]? = Y2.heap[k]? := fun k hk => hbz.block k (by rw [← hB8]; exact hk)
            have hl8 : B8 ≤ Z.heap.size := by rw [hB8]; exact hbz.size
            clear hB8
            refine hK.out _ _ (((below_then HBY2 hbz).block br HBR.out).trans HR3.out) (fun hHeld => ?_)
            clear hHeld hK K
            try simp only [Act.put, List.setIfInBounds_toArray, List.set_cons_zero, List.set_cons_succ]
            refine name_world (F := fun X => Below W3.heap.size W3 X ∧ ZT B8 X A1 t1 ∧ ZT B8 X A2 t2 ∧ B8 ≤ X.heap.size ∧ X.ownsRow B8 52 3 (.slice A3 n3 k3) n3 (ns.flatMap cellsND)) ⟨(below_then HBY2 hbz), (hz1.keep hk8), (hz2.keep hk8), hl8, hoz⟩ (fun Y3 hF => ?_)
            obtain ⟨HBY3, H1Y3, H2Y3, HLY3, H3Y3⟩ := hF
            have hHeld : (fun WW : World => GBox WW br #[.slice NA n1 nc, .slice EA n2 ec, .slice VA n3 vc, .slice UA n4 uc]) Y3 := ((HBY3.block br HBR.out).trans HR3.out)
            clear hcn hoz hbz hz1 hz2 hk8 hl8
            clear HBY2 H1Y2 H2Y2
            refine two_step (i := 11) (j := 13) (by kernel_rfl) rfl rfl (fun K hK => ?_) (fun K hK => ?_)
            · go_simp
              have hcn := HCE.out Y3 (below_then HBW3.out HBY3)
              go_at_call 23
              go_loud (refine hcn.mono ?_)
              rintro e Z ⟨A4, k4, rfl, hoz, hbz⟩
              have hoz2 := own_base hoz HLY3
              refine hK.out _ _ (((below_then HBY3 hbz).block br HBR.out).trans HR3.out) (fun hHeld => ?_)
              clear hHeld hK K
              try simp only [Act.put, List.setIfInBounds_toArray, List.set_cons_zero, List.set_cons_succ]
              refine name_world (F := fun X => Below W3.heap.size W3 X ∧ ZT B8 X A1 t1 ∧ ZT B8 X A2 t2 ∧ B8 ≤ X.heap.size ∧ X.ownsRow B8 52 3 (.slice A3 n3 k3) n3 (ns.flatMap cellsND) ∧ X.ownsRow B8 55 5 (.slice A4 n4 k4) n4 (es.flatMap cellsED)) ⟨(below_then HBY3 hbz), (H1Y3.keep (fun k hk => hbz.block k (Nat.lt_of_lt_of_le hk HLY3))), (H2Y3.keep (fun k hk => hbz.block k (Nat.lt_of_lt_of_le hk HLY3))), (Nat.le_trans HLY3 hbz.size), (own_below H3Y3 hbz), hoz2⟩ (fun Y4 hF => ?_)
              obtain ⟨HBY4, H1Y4, H2Y4, HLY4, H3Y4, H4Y4⟩ := hF
              have hHeld : (fun WW : World => GBox WW br #[.slice NA n1 nc, .slice EA n2 ec, .slice VA n3 vc, .slice UA n4 uc]) Y4 := ((HBY4.block br HBR.out).trans HR3.out)
              clear hcn hoz hoz2 hbz
              clear HBY3 H1Y3 H2Y3 HLY3 H3Y3
              refine take_in (i := 12) (v := .agg #[.slice A1 n1 k1, .slice A2 n2 k2, .slice A3 n3 k3, .slice A4 n4 k4]) rfl (by kernel_rfl) (by kernel_rfl) (by kernel_rfl) (fun _ _ _ h => h) (by rfl) ?hy12g31 (by assumption) ?_
              case hy12g31 => intro WW hSw; go_simp; try with_reducible rfl
              try simp only [Act.put, List.setIfInBounds_toArray, List.set_cons_zero, List.set_cons_succ]
              refine one_step (i := 13) (by kernel_rfl) rfl (fun K hK => ?_)
              go_simp
              have hba := below_more (Below.refl Y4.heap.size Y4) (.cells #[.slice none 0 0, .slice none 0 0, .slice none 0 0, .slice none 0 0] 28)
              obtain ⟨bo, hbo⟩ : ∃ bo, bo = Y4.heap.size := ⟨_, rfl⟩
              have hbx : GBox (Y4.alloc (.cells #[.slice none 0 0, .slice none 0 0, .slice none 0 0, .slice none 0 0] 28)) bo #[.slice none 0 0, .slice none 0 0, .slice none 0 0, .slice none 0 0] := by rw [hbo]; exact heap_alloc_new Y4 _
              have HBO : Aside0 (W3.heap.size ≤ bo) := ⟨by rw [hbo]; exact HBY4.size⟩
              simp only [← hbo] at ⊢
              clear hbo
              refine hK.out _ _ (((below_then HBY4 hba).block br HBR.out).trans HR3.out) (fun hHeld => ?_)
              clear hHeld hK K
              try simp only [Act.put, List.setIfInBounds_toArray, List.set_cons_zero, List.set_cons_succ]
              refine name_world (F := fun X => Below W3.heap.size W3 X ∧ ZT B8 X A1 t1 ∧ ZT B8 X A2 t2 ∧ B8 ≤ X.heap.size ∧ X.ownsRow B8 52 3 (.slice A3 n3 k3) n3 (ns.flatMap cellsND) ∧ X.ownsRow B8 55 5 (.slice A4 n4 k4) n4 (es.flatMap cellsED) ∧ GBox X bo #[.slice none 0 0, .slice none 0 0, .slice none 0 0, .slice none 0 0]) ⟨(below_then HBY4 hba), (H1Y4.keep (fun k hk => hba.block k (Nat.lt_of_lt_of_le hk HLY4))), (H2Y4.keep (fun k hk => hba.block k (Nat.lt_of_lt_of_le hk HLY4))), (Nat.le_trans HLY4 hba.size), (own_below H3Y4 hba), (own_below H4Y4 hba), hbx⟩ (fun Y5 hF => ?_)
              obtain ⟨HBY5, H1Y5, H2Y5, HLY5, H3Y5, H4Y5, HbY5⟩ := hF
              have hHeld : (fun WW : World => GBox WW br #[.slice NA n1 nc, .slice EA n2 ec, .slice VA n3 vc, .slice UA n4 uc]) Y5 := ((HBY5.block br HBR.out).trans HR3.out)
              clear hba hbx
              clear HBY4 H1Y4 H2Y4 HLY4 H3Y4 H4Y4
              have hfz := GBox.free HbY5
              have hcl := GBox.cells HbY5
              refine one_step (i := 14) (by kernel_rfl) rfl (fun K hK => ?_)
              go_simp
              have hsx : ∀ k, k ≠ bo → ((((Y5.setCell ⟨bo, 0, none⟩ (.slice A1 n1 k1)).setCell ⟨bo, 1, none⟩ (.slice A2 n2 k2)).setCell ⟨bo, 2, none⟩ (.slice A3 n3 k3)).setCell ⟨bo, 3, none⟩ (.slice A4 n4 k4)).heap[k]? = Y5.heap[k]? := fun k h => by
                rw [heap_setCell_other _ ⟨bo, 3, none⟩ _ _ h, heap_setCell_other _ ⟨bo, 2, none⟩ _ _ h, heap_setCell_other _ ⟨bo, 1, none⟩ _ _ h, heap_setCell_other _ ⟨bo, 0, none⟩ _ _ h]
              refine hK.out _ _ ((hsx br (by have := HBO.out; have := HBR.out; omega)).trans ((HBY5.block br HBR.out).trans HR3.out)) (fun hHeld => ?_)
              clear hHeld hK K
              try simp only [Act.put, List.setIfInBounds_toArray, List.set_cons_zero, List.set_cons_succ]
              refine wpAnyH_done (by kernel_rfl) ?_ _
              go_wp2
              go_meet
              case rel =>
                have hw3 := HBW3.out.size
                have hx : w.heap.size ≤ bo := Nat.le_trans hw3 HBO.out
                have hbw := below_then HBW3.out HBY5
                refine ⟨bo, B8, A1, k1, t1, A2, k2, t2, A3, k3, A4, k4, rfl, below_set (below_set (below_set (below_set hbw (p := ⟨bo, 0, none⟩) hx _) (p := ⟨bo, 1, none⟩) hx _) (p := ⟨bo, 2, none⟩) hx _) (p := ⟨bo, 3, none⟩) hx _, (((HbY5.put 0 _).put 1 _).put 2 _).put 3 _, HBO.out, HB8.out, by have := HLY5; simp; omega, fun k h => (hsx k (by have := HBO.out; omega)).trans (HBY5.block k h), ?_, HC1.out, ?_, HC2.out, ?_, ?_⟩
                · exact H1Y5.keep_box HbY5 (slices4 _ _ _ _ _ _ _ _ _ _ _ _) (fun k _ h => hsx k h)
                · exact H2Y5.keep_box HbY5 (slices4 _ _ _ _ _ _ _ _ _ _ _ _) (fun k _ h => hsx k h)
                · exact own_keep H3Y5 (fun k e => hsx k (fun e2 => own_tag H3Y5 HbY5 (by decide) (by rw [e, e2])))
                · exact own_keep H4Y5 (fun k e => hsx k (fun e2 => own_tag H4Y5 HbY5 (by decide) (by rw [e, e2])))
            · go_simp
              have hba := below_more (Below.refl Y3.heap.size Y3) (.cells #[.slice none 0 0, .slice none 0 0, .slice none 0 0, .slice none 0 0] 28)
              obtain ⟨bo, hbo⟩ : ∃ bo, bo = Y3.heap.size := ⟨_, rfl⟩
              have hbx : GBox (Y3.alloc (.cells #[.slice none 0 0, .slice none 0 0, .slice none 0 0, .slice none 0 0] 28)) bo #[.slice none 0 0, .slice none 0 0, .slice none 0 0, .slice none 0 0] := by rw [hbo]; exact heap_alloc_new Y3 _
              have HBO : Aside0 (W3.heap.size ≤ bo) := ⟨by rw [hbo]; exact HBY3.size⟩
              simp only [← hbo] at ⊢
              clear hbo
              refine hK.out _ _ (((below_then HBY3 hba).block br HBR.out).trans HR3.out) (fun hHeld => ?_)
              clear hHeld hK K
              try simp only [Act.put, List.setIfInBounds_toArray, List.set_cons_zero, List.set_cons_succ]
              refine name_world (F := fun X => Below W3.heap.size W3 X ∧ ZT B8 X A1 t1 ∧ ZT B8 X A2 t2 ∧ B8 ≤ X.heap.size ∧ X.ownsRow B8 52 3 (.slice A3 n3 k3) n3 (ns.flatMap cellsND) ∧ GBox X bo #[.slice none 0 0, .slice none 0 0, .slice none 0 0, .slice none 0 0]) ⟨(below_then HBY3 hba), (H1Y3.keep (fun k hk => hba.block k (Nat.lt_of_lt_of_le hk HLY3))), (H2Y3.keep (fun k hk => hba.block k (Nat.lt_of_lt_of_le hk HLY3))), (Nat.le_trans HLY3 hba.size), (own_below H3Y3 hba), hbx⟩ (fun Y4 hF => ?_)
              obtain ⟨HBY4, H1Y4, H2Y4, HLY4, H3Y4, HbY4⟩ := hF
              have hHeld : (fun WW : World => GBox WW br #[.slice NA n1 nc, .slice EA n2 ec, .slice VA n3 vc, .slice UA n4 uc]) Y4 := ((HBY4.block br HBR.out).trans HR3.out)
              clear hba hbx
              clear HBY3 H1Y3 H2Y3 HLY3 H3Y3
              refine one_step (i := 11) (by kernel_rfl) rfl (fun K hK => ?_)
              go_simp
              have hcn := HCE.out Y4 (below_then HBW3.out HBY4)
              go_at_call 23
              go_loud (refine hcn.mono ?_)
              rintro e Z ⟨A4, k4, rfl, hoz, hbz⟩
              have hoz2 := own_base hoz HLY4
              refine hK.out _ _ (((below_then HBY4 hbz).block br HBR.out).trans HR3.out) (fun hHeld => ?_)
              clear hHeld hK K
              try simp only [Act.put, List.setIfInBounds_toArray, List.set_cons_zero, List.set_cons_succ]
              refine name_world (F := fun X => Below W3.heap.size W3 X ∧ ZT B8 X A1 t1 ∧ ZT B8 X A2 t2 ∧ B8 ≤ X.heap.size ∧ X.ownsRow B8 52 3 (.slice A3 n3 k3) n3 (ns.flatMap cellsND) ∧ X.ownsRow B8 55 5 (.slice A4 n4 k4) n4 (es.flatMap cellsED) ∧ GBox X bo #[.slice none 0 0, .slice none 0 0, .slice none 0 0, .slice none 0 0]) ⟨(below_then HBY4 hbz), (H1Y4.keep (fun k hk => hbz.block k (Nat.lt_of_lt_of_le hk HLY4))), (H2Y4.keep (fun k hk => hbz.block k (Nat.lt_of_lt_of_le hk HLY4))), (Nat.le_trans HLY4 hbz.size), (own_below H3Y4 hbz), hoz2, ((hbz.block bo (Array.getElem?_eq_some_iff.1 HbY4).1).trans HbY4)⟩ (fun Y5 hF => ?_)
              obtain ⟨HBY5, H1Y5, H2Y5, HLY5, H3Y5, H4Y5, HbY5⟩ := hF
              have hHeld : (fun WW : World => GBox WW br #[.slice NA n1 nc, .slice EA n2 ec, .slice VA n3 vc, .slice UA n4 uc]) Y5 := ((HBY5.block br HBR.out).trans HR3.out)
              clear hcn hoz hoz2 hbz
              clear HBY4 H1Y4 H2Y4 HLY4 H3Y4 HbY4
              refine take_in (i := 12) (v := .agg #[.slice A1 n1 k1, .slice A2 n2 k2, .slice A3 n3 k3, .slice A4 n4 k4]) rfl (by kernel_rfl) (by kernel_rfl) (by kernel_rfl) (fun _ _ _ h => h) (by rfl) ?hy12g32 (by assumption) ?_
              case hy12g32 => intro WW hSw; go_simp; try with_reducible rfl
              try simp only [Act.put, List.setIfInBounds_toArray, List.set_cons_zero, List.set_cons_succ]
              have hfz := GBox.free HbY5
              have hcl := GBox.cells HbY5
              refine one_step (i := 14) (by kernel_rfl) rfl (fun K hK => ?_)
              go_simp
              have hsx : ∀ k, k ≠ bo → ((((Y5.setCell ⟨bo, 0, none⟩ (.slice A1 n1 k1)).setCell ⟨bo, 1, none⟩ (.slice A2 n2 k2)).setCell ⟨bo, 2, none⟩ (.slice A3 n3 k3)).setCell ⟨bo, 3, none⟩ (.slice A4 n4 k4)).heap[k]? = Y5.heap[k]? := fun k h => by
                rw [heap_setCell_other _ ⟨bo, 3, none⟩ _ _ h, heap_setCell_other _ ⟨bo, 2, none⟩ _ _ h, heap_setCell_other _ ⟨bo, 1, none⟩ _ _ h, heap_setCell_other _ ⟨bo, 0, none⟩ _ _ h]
              refine hK.out _ _ ((hsx br (by have := HBO.out; have := HBR.out; omega)).trans ((HBY5.block br HBR.out).trans HR3.out)) (fun hHeld => ?_)
              clear hHeld hK K
              try simp only [Act.put, List.setIfInBounds_toArray, List.set_cons_zero, List.set_cons_succ]
              refine wpAnyH_done (by kernel_rfl) ?_ _
              go_wp2
              go_meet
              case rel =>
                have hw3 := HBW3.out.size
                have hx : w.heap.size ≤ bo := Nat.le_trans hw3 HBO.out
                have hbw := below_then HBW3.out HBY5
                refine ⟨bo, B8, A1, k1, t1, A2, k2, t2, A3, k3, A4, k4, rfl, below_set (below_set (below_set (below_set hbw (p := ⟨bo, 0, none⟩) hx _) (p := ⟨bo, 1, none⟩) hx _) (p := ⟨bo, 2, none⟩) hx _) (p := ⟨bo, 3, none⟩) hx _, (((HbY5.put 0 _).put 1 _).put 2 _).put 3 _, HBO.out, HB8.out, by have := HLY5; simp; omega, fun k h => (hsx k (by have := HBO.out; omega)).trans (HBY5.block k h), ?_, HC1.out, ?_, HC2.out, ?_, ?_⟩
                · exact H1Y5.keep_box HbY5 (slices4 _ _ _ _ _ _ _ _ _ _ _ _) (fun k _ h => hsx k h)
                · exact H2Y5.keep_box HbY5 (slices4 _ _ _ _ _ _ _ _ _ _ _ _) (fun k _ h => hsx k h)
                · exact own_keep H3Y5 (fun k e => hsx k (fun e2 => own_tag H3Y5 HbY5 (by decide) (by rw [e, e2])))
                · exact own_keep H4Y5 (fun k e => hsx k (fun e2 => own_tag H4Y5 HbY5 (by decide) (by rw [e, e2])))
          · go_simp
            have hba := below_more (Below.refl Y2.heap.size Y2) (.cells #[.slice none 0 0, .slice none 0 0, .slice none 0 0, .slice none 0 0] 28)
            obtain ⟨bo, hbo⟩ : ∃ bo, bo = Y2.heap.size := ⟨_, rfl⟩
            have hbx : GBox (Y2.alloc (.cells #[.slice none 0 0, .slice none 0 0, .slice none 0 0, .slice none 0 0] 28)) bo #[.slice none 0 0, .slice none 0 0, .slice none 0 0, .slice none 0 0] := by rw [hbo]; exact heap_alloc_new Y2 _
            have HBO : Aside0 (W3.heap.size ≤ bo) := ⟨by rw [hbo]; exact HBY2.size⟩
            simp only [← hbo] at ⊢
            clear hbo
            refine hK.out _ _ (((below_then HBY2 hba).block br HBR.out).trans HR3.out) (fun hHeld => ?_)
            clear hHeld hK K
            try simp only [Act.put, List.setIfInBounds_toArray, List.set_cons_zero, List.set_cons_succ]
            refine name_world (F := fun X => Below W3.heap.size W3 X ∧ ReadsT X A1 t1 ∧ ReadsT X A2 t2 ∧ GBox X bo #[.slice none 0 0, .slice none 0 0, .slice none 0 0, .slice none 0 0]) ⟨(below_then HBY2 hba), (H1Y2.below hba), (H2Y2.below hba), hbx⟩ (fun Y3 hF => ?_)
            obtain ⟨HBY3, H1Y3, H2Y3, HbY3⟩ := hF
            have hHeld : (fun WW : World => GBox WW br #[.slice NA n1 nc, .slice EA n2 ec, .slice VA n3 vc, .slice UA n4 uc]) Y3 := ((HBY3.block br HBR.out).trans HR3.out)
            clear hba hbx
            clear HBY2 H1Y2 H2Y2
            refine one_step (i := 8) (by kernel_rfl) rfl (fun K hK => ?_)
            go_simp
            have hcn := HCN.out Y3 (below_then HBW3.out HBY3)
            go_at_call 22
            go_loud (refine hcn.mono ?_)
            rintro e Z ⟨A3, k3, rfl, hoz, hbz⟩
            obtain ⟨B8, hB8⟩ : ∃ B8, B8 = Y3.heap.size := ⟨_, rfl⟩
            have HB8 : Aside0 (W3.heap.size ≤ B8) := ⟨by rw [hB8]; exact HBY3.size⟩
            have hz1 : ZT B8 Y3 A1 t1 := by rw [hB8]; exact ZT.of H1Y3
            have hz2 : ZT B8 Y3 A2 t2 := by rw [hB8]; exact ZT.of H2Y3
            rw [← hB8] at hoz
            have hk8 : ∀ k, k < B8 → Z.heap[k]? = Y3.heap[k]? := fun k hk => hbz.block k (by rw [← hB8]; exact hk)
            have hl8 : B8 ≤ Z.heap.size := by rw [hB8]; exact hbz.size
            clear hB8
            refine hK.out _ _ (((below_then HBY3 hbz).block br HBR.out).trans HR3.out) (fun hHeld => ?_)
            clear hHeld hK K
            try simp only [Act.put, List.setIfInBounds_toArray, List.set_cons_zero, List.set_cons_succ]
            refine name_world (F := fun X => Below W3.heap.size W3 X ∧ ZT B8 X A1 t1 ∧ ZT B8 X A2 t2 ∧ B8 ≤ X.heap.size ∧ X.ownsRow B8 52 3 (.slice A3 n3 k3) n3 (ns.flatMap cellsND) ∧ GBox X bo #[.slice none 0 0, .slice none 0 0, .slice none 0 0, .slice none 0 0]) ⟨(below_then HBY3 hbz), (hz1.keep hk8), (hz2.keep hk8), hl8, hoz, ((hbz.block bo (Array.getElem?_eq_some_iff.1 HbY3).1).trans HbY3)⟩ (fun Y4 hF => ?_)
            obtain ⟨HBY4, H1Y4, H2Y4, HLY4, H3Y4, HbY4⟩ := hF
            have hHeld : (fun WW : World => GBox WW br #[.slice NA n1 nc, .slice EA n2 ec, .slice VA n3 vc, .slice UA n4 uc]) Y4 := ((HBY4.block br HBR.out).trans HR3.out)
            clear hcn hoz hbz hz1 hz2 hk8 hl8
            clear HBY3 H1Y3 H2Y3 HbY3
            refine one_step (i := 11) (by kernel_rfl) rfl (fun K hK => ?_)
            go_simp
            have hcn := HCE.out Y4 (below_then HBW3.out HBY4)
            go_at_call 23
            go_loud (refine hcn.mono ?_)
            rintro e Z ⟨A4, k4, rfl, hoz, hbz⟩
            have hoz2 := own_base hoz HLY4
            refine hK.out _ _ (((below_then HBY4 hbz).block br HBR.out).trans HR3.out) (fun hHeld => ?_)
            clear hHeld hK K
            try simp only [Act.put, List.setIfInBounds_toArray, List.set_cons_zero, List.set_cons_succ]
            refine name_world (F := fun X => Below W3.heap.size W3 X ∧ ZT B8 X A1 t1 ∧ ZT B8 X A2 t2 ∧ B8 ≤ X.heap.size ∧ X.ownsRow B8 52 3 (.slice A3 n3 k3) n3 (ns.flatMap cellsND) ∧ X.ownsRow B8 55 5 (.slice A4 n4 k4) n4 (es.flatMap cellsED) ∧ GBox X bo #[.slice none 0 0, .slice none 0 0, .slice none 0 0, .slice none 0 0]) ⟨(below_then HBY4 hbz), (H1Y4.keep (fun k hk => hbz.block k (Nat.lt_of_lt_of_le hk HLY4))), (H2Y4.keep (fun k hk => hbz.block k (Nat.lt_of_lt_of_le hk HLY4))), (Nat.le_trans HLY4 hbz.size), (own_below H3Y4 hbz), hoz2, ((hbz.block bo (Array.getElem?_eq_some_iff.1 HbY4).1).trans HbY4)⟩ (fun Y5 hF => ?_)
            obtain ⟨HBY5, H1Y5, H2Y5, HLY5, H3Y5, H4Y5, HbY5⟩ := hF
            have hHeld : (fun WW : World => GBox WW br #[.slice NA n1 nc, .slice EA n2 ec, .slice VA n3 vc, .slice UA n4 uc]) Y5 := ((HBY5.block br HBR.out).trans HR3.out)
            clear hcn hoz hoz2 hbz
            clear HBY4 H1Y4 H2Y4 HLY4 H3Y4 HbY4
            refine take_in (i := 12) (v := .agg #[.slice A1 n1 k1, .slice A2 n2 k2, .slice A3 n3 k3, .slice A4 n4 k4]) rfl (by kernel_rfl) (by kernel_rfl) (by kernel_rfl) (fun _ _ _ h => h) (by rfl) ?hy12g33 (by assumption) ?_
            case hy12g33 => intro WW hSw; go_simp; try with_reducible rfl
            try simp only [Act.put, List.setIfInBounds_toArray, List.set_cons_zero, List.set_cons_succ]
            have hfz := GBox.free HbY5
            have hcl := GBox.cells HbY5
            refine one_step (i := 14) (by kernel_rfl) rfl (fun K hK => ?_)
            go_simp
            have hsx : ∀ k, k ≠ bo → ((((Y5.setCell ⟨bo, 0, none⟩ (.slice A1 n1 k1)).setCell ⟨bo, 1, none⟩ (.slice A2 n2 k2)).setCell ⟨bo, 2, none⟩ (.slice A3 n3 k3)).setCell ⟨bo, 3, none⟩ (.slice A4 n4 k4)).heap[k]? = Y5.heap[k]? := fun k h => by
              rw [heap_setCell_other _ ⟨bo, 3, none⟩ _ _ h, heap_setCell_other _ ⟨bo, 2, none⟩ _ _ h, heap_setCell_other _ ⟨bo, 1, none⟩ _ _ h, heap_setCell_other _ ⟨bo, 0, none⟩ _ _ h]
            refine hK.out _ _ ((hsx br (by have := HBO.out; have := HBR.out; omega)).trans ((HBY5.block br HBR.out).trans HR3.out)) (fun hHeld => ?_)
            clear hHeld hK K
            try simp only [Act.put, List.setIfInBounds_toArray, List.set_cons_zero, List.set_cons_succ]
            refine wpAnyH_done (by kernel_rfl) ?_ _
            go_wp2
            go_meet
            case rel =>
              have hw3 := HBW3.out.size
              have hx : w.heap.size ≤ bo := Nat.le_trans hw3 HBO.out
              have hbw := below_then HBW3.out HBY5
              refine ⟨bo, B8, A1, k1, t1, A2, k2, t2, A3, k3, A4, k4, rfl, below_set (below_set (below_set (below_set hbw (p := ⟨bo, 0, none⟩) hx _) (p := ⟨bo, 1, none⟩) hx _) (p := ⟨bo, 2, none⟩) hx _) (p := ⟨bo, 3, none⟩) hx _, (((HbY5.put 0 _).put 1 _).put 2 _).put 3 _, HBO.out, HB8.out, by have := HLY5; simp; omega, fun k h => (hsx k (by have := HBO.out; omega)).trans (HBY5.block k h), ?_, HC1.out, ?_, HC2.out, ?_, ?_⟩
              · exact H1Y5.keep_box HbY5 (slices4 _ _ _ _ _ _ _ _ _ _ _ _) (fun k _ h => hsx k h)
              · exact H2Y5.keep_box HbY5 (slices4 _ _ _ _ _ _ _ _ _ _ _ _) (fun k _ h => hsx k h)
              · exact own_keep H3Y5 (fun k e => hsx k (fun e2 => own_tag H3Y5 HbY5 (by decide) (by rw [e, e2])))
              · exact own_keep H4Y5 (fun k e => hsx k (fun e2 => own_tag H4Y5 HbY5 (by decide) (by rw [e, e2])))
        · go_simp
          have hba := below_more (Below.refl Y1.heap.size Y1) (.cells #[.slice none 0 0, .slice none 0 0, .slice none 0 0, .slice none 0 0] 28)
          obtain ⟨bo, hbo⟩ : ∃ bo, bo = Y1.heap.size := ⟨_, rfl⟩
          have hbx : GBox (Y1.alloc (.cells #[.slice none 0 0, .slice none 0 0, .slice none 0 0, .slice none 0 0] 28)) bo #[.slice none 0 0, .slice none 0 0, .slice none 0 0, .slice none 0 0] := by rw [hbo]; exact heap_alloc_new Y1 _
          have HBO : Aside0 (W3.heap.size ≤ bo) := ⟨by rw [hbo]; exact HBY1.size⟩
          simp only [← hbo] at ⊢
          clear hbo
          refine hK.out _ _ (((below_then HBY1 hba).block br HBR.out).trans HR3.out) (fun hHeld => ?_)
          clear hHeld hK K
          try simp only [Act.put, List.setIfInBounds_toArray, List.set_cons_zero, List.set_cons_succ]
          refine name_world (F := fun X => Below W3.heap.size W3 X ∧ ReadsT X A1 t1 ∧ GBox X bo #[.slice none 0 0, .slice none 0 0, .slice none 0 0, .slice none 0 0]) ⟨(below_then HBY1 hba), (H1Y1.below hba), hbx⟩ (fun Y2 hF => ?_)
          obtain ⟨HBY2, H1Y2, HbY2⟩ := hF
          have hHeld : (fun WW : World => GBox WW br #[.slice NA n1 nc, .slice EA n2 ec, .slice VA n3 vc, .slice UA n4 uc]) Y2 := ((HBY2.block br HBR.out).trans HR3.out)
          clear hba hbx
          clear HBY1 H1Y1
          refine one_step (i := 5) (by kernel_rfl) rfl (fun K hK => ?_)
          go_simp
          go_at_call 21
          go_loud (refine (HCT2.out Y2 (below_then HBW3.out HBY2)).mono ?_)
          rintro e Z ⟨v, t2, rfl, hI⟩
          obtain ⟨A2, k2, hv, hrz⟩ := hI.slice HN.out.2.1 (by have := hN; omega)
          subst hv
          have hbz := hI.below
          have HC2 := Aside0.mk hI.con
          refine hK.out _ _ (((below_then HBY2 hbz).block br HBR.out).trans HR3.out) (fun hHeld => ?_)
          clear hHeld hK K
          try simp only [Act.put, List.setIfInBounds_toArray, List.set_cons_zero, List.set_cons_succ]
          refine name_world (F := fun X => Below W3.heap.size W3 X ∧ ReadsT X A1 t1 ∧ ReadsT X A2 t2 ∧ GBox X bo #[.slice none 0 0, .slice none 0 0, .slice none 0 0, .slice none 0 0]) ⟨(below_then HBY2 hbz), (H1Y2.below hbz), hrz, ((hbz.block bo (Array.getElem?_eq_some_iff.1 HbY2).1).trans HbY2)⟩ (fun Y3 hF => ?_)
          obtain ⟨HBY3, H1Y3, H2Y3, HbY3⟩ := hF
          have hHeld : (fun WW : World => GBox WW br #[.slice NA n1 nc, .slice EA n2 ec, .slice VA n3 vc, .slice UA n4 uc]) Y3 := ((HBY3.block br HBR.out).trans HR3.out)
          clear hI hrz hbz
          clear HBY2 H1Y2 HbY2
          refine one_step (i := 8) (by kernel_rfl) rfl (fun K hK => ?_)
          go_simp
          have hcn := HCN.out Y3 (below_then HBW3.out HBY3)
          go_at_call 22
          go_loud (refine hcn.mono ?_)
          rintro e Z ⟨A3, k3, rfl, hoz, hbz⟩
          obtain ⟨B8, hB8⟩ : ∃ B8, B8 = Y3.heap.size := ⟨_, rfl⟩
          have HB8 : Aside0 (W3.heap.size ≤ B8) := ⟨by rw [hB8]; exact HBY3.size⟩
          have hz1 : ZT B8 Y3 A1 t1 := by rw [hB8]; exact ZT.of H1Y3
          have hz2 : ZT B8 Y3 A2 t2 := by rw [hB8]; exact ZT.of H2Y3
          rw [← hB8] at hoz
          have hk8 : ∀ k, k < B8 → Z.heap[k]? = Y3.heap[k]? := fun k hk => hbz.block k (by rw [← hB8]; exact hk)
          have hl8 : B8 ≤ Z.heap.size := by rw [hB8]; exact hbz.size
          clear hB8
          refine hK.out _ _ (((below_then HBY3 hbz).block br HBR.out).trans HR3.out) (fun hHeld => ?_)
          clear hHeld hK K
          try simp only [Act.put, List.setIfInBounds_toArray, List.set_cons_zero, List.set_cons_succ]
          refine name_world (F := fun X => Below W3.heap.size W3 X ∧ ZT B8 X A1 t1 ∧ ZT B8 X A2 t2 ∧ B8 ≤ X.heap.size ∧ X.ownsRow B8 52 3 (.slice A3 n3 k3) n3 (ns.flatMap cellsND) ∧ GBox X bo #[.slice none 0 0, .slice none 0 0, .slice none 0 0, .slice none 0 0]) ⟨(below_then HBY3 hbz), (hz1.keep hk8), (hz2.keep hk8), hl8, hoz, ((hbz.block bo (Array.getElem?_eq_some_iff.1 HbY3).1).trans HbY3)⟩ (fun Y4 hF => ?_)
          obtain ⟨HBY4, H1Y4, H2Y4, HLY4, H3Y4, HbY4⟩ := hF
          have hHeld : (fun WW : World => GBox WW br #[.slice NA n1 nc, .slice EA n2 ec, .slice VA n3 vc, .slice UA n4 uc]) Y4 := ((HBY4.block br HBR.out).trans HR3.out)
          clear hcn hoz hbz hz1 hz2 hk8 hl8
          clear HBY3 H1Y3 H2Y3 HbY3
          refine one_step (i := 11) (by kernel_rfl) rfl (fun K hK => ?_)
          go_simp
          have hcn := HCE.out Y4 (below_then HBW3.out HBY4)
          go_at_call 23
          go_loud (refine hcn.mono ?_)
          rintro e Z ⟨A4, k4, rfl, hoz, hbz⟩
          have hoz2 := own_base hoz HLY4
          refine hK.out _ _ (((below_then HBY4 hbz).block br HBR.out).trans HR3.out) (fun hHeld => ?_)
          clear hHeld hK K
          try simp only [Act.put, List.setIfInBounds_toArray, List.set_cons_zero, List.set_cons_succ]
          refine name_world (F := fun X => Below W3.heap.size W3 X ∧ ZT B8 X A1 t1 ∧ ZT B8 X A2 t2 ∧ B8 ≤ X.heap.size ∧ X.ownsRow B8 52 3 (.slice A3 n3 k3) n3 (ns.flatMap cellsND) ∧ X.ownsRow B8 55 5 (.slice A4 n4 k4) n4 (es.flatMap cellsED) ∧ GBox X bo #[.slice none 0 0, .slice none 0 0, .slice none 0 0, .slice none 0 0]) ⟨(below_then HBY4 hbz), (H1Y4.keep (fun k hk => hbz.block k (Nat.lt_of_lt_of_le hk HLY4))), (H2Y4.keep (fun k hk => hbz.block k (Nat.lt_of_lt_of_le hk HLY4))), (Nat.le_trans HLY4 hbz.size), (own_below H3Y4 hbz), hoz2, ((hbz.block bo (Array.getElem?_eq_some_iff.1 HbY4).1).trans HbY4)⟩ (fun Y5 hF => ?_)
          obtain ⟨HBY5, H1Y5, H2Y5, HLY5, H3Y5, H4Y5, HbY5⟩ := hF
          have hHeld : (fun WW : World => GBox WW br #[.slice NA n1 nc, .slice EA n2 ec, .slice VA n3 vc, .slice UA n4 uc]) Y5 := ((HBY5.block br HBR.out).trans HR3.out)
          clear hcn hoz hoz2 hbz
          clear HBY4 H1Y4 H2Y4 HLY4 H3Y4 HbY4
          refine take_in (i := 12) (v := .agg #[.slice A1 n1 k1, .slice A2 n2 k2, .slice A3 n3 k3, .slice A4 n4 k4]) rfl (by kernel_rfl) (by kernel_rfl) (by kernel_rfl) (fun _ _ _ h => h) (by rfl) ?hy12g34 (by assumption) ?_
          case hy12g34 => intro WW hSw; go_simp; try with_reducible rfl
          try simp only [Act.put, List.setIfInBounds_toArray, List.set_cons_zero, List.set_cons_succ]
          have hfz := GBox.free HbY5
          have hcl := GBox.cells HbY5
          refine one_step (i := 14) (by kernel_rfl) rfl (fun K hK => ?_)
          go_simp
          have hsx : ∀ k, k ≠ bo → ((((Y5.setCell ⟨bo, 0, none⟩ (.slice A1 n1 k1)).setCell ⟨bo, 1, none⟩ (.slice A2 n2 k2)).setCell ⟨bo, 2, none⟩ (.slice A3 n3 k3)).setCell ⟨bo, 3, none⟩ (.slice A4 n4 k4)).heap[k]? = Y5.heap[k]? := fun k h => by
            rw [heap_setCell_other _ ⟨bo, 3, none⟩ _ _ h, heap_setCell_other _ ⟨bo, 2, none⟩ _ _ h, heap_setCell_other _ ⟨bo, 1, none⟩ _ _ h, heap_setCell_other _ ⟨bo, 0, none⟩ _ _ h]
          refine hK.out _ _ ((hsx br (by have := HBO.out; have := HBR.out; omega)).trans ((HBY5.block br HBR.out).trans HR3.out)) (fun hHeld => ?_)
          clear hHeld hK K
          try simp only [Act.put, List.setIfInBounds_toArray, List.set_cons_zero, List.set_cons_succ]
          refine wpAnyH_done (by kernel_rfl) ?_ _
          go_wp2
          go_meet
          case rel =>
            have hw3 := HBW3.out.size
            have hx : w.heap.size ≤ bo := Nat.le_trans hw3 HBO.out
            have hbw := below_then HBW3.out HBY5
            refine ⟨bo, B8, A1, k1, t1, A2, k2, t2, A3, k3, A4, k4, rfl, below_set (below_set (below_set (below_set hbw (p := ⟨bo, 0, none⟩) hx _) (p := ⟨bo, 1, none⟩) hx _) (p := ⟨bo, 2, none⟩) hx _) (p := ⟨bo, 3, none⟩) hx _, (((HbY5.put 0 _).put 1 _).put 2 _).put 3 _, HBO.out, HB8.out, by have := HLY5; simp; omega, fun k h => (hsx k (by have := HBO.out; omega)).trans (HBY5.block k h), ?_, HC1.out, ?_, HC2.out, ?_, ?_⟩
            · exact H1Y5.keep_box HbY5 (slices4 _ _ _ _ _ _ _ _ _ _ _ _) (fun k _ h => hsx k h)
            · exact H2Y5.keep_box HbY5 (slices4 _ _ _ _ _ _ _ _ _ _ _ _) (fun k _ h => hsx k h)
            · exact own_keep H3Y5 (fun k e => hsx k (fun e2 => own_tag H3Y5 HbY5 (by decide) (by rw [e, e2])))
            · exact own_keep H4Y5 (fun k e => hsx k (fun e2 => own_tag H4Y5 HbY5 (by decide) (by rw [e, e2])))
      · go_simp
        have hba := below_more (Below.refl Y0.heap.size Y0) (.cells #[.slice none 0 0, .slice none 0 0, .slice none 0 0, .slice none 0 0] 28)
        obtain ⟨bo, hbo⟩ : ∃ bo, bo = Y0.heap.size := ⟨_, rfl⟩
        have hbx : GBox (Y0.alloc (.cells #[.slice none 0 0, .slice none 0 0, .slice none 0 0, .slice none 0 0] 28)) bo #[.slice none 0 0, .slice none 0 0, .slice none 0 0, .slice none 0 0] := by rw [hbo]; exact heap_alloc_new Y0 _
        have HBO : Aside0 (W3.heap.size ≤ bo) := ⟨by rw [hbo]; exact HBY0.size⟩
        simp only [← hbo] at ⊢
        clear hbo
        refine hK.out _ _ (((below_then HBY0 hba).block br HBR.out).trans HR3.out) (fun hHeld => ?_)
        clear hHeld hK K
        try simp only [Act.put, List.setIfInBounds_toArray, List.set_cons_zero, List.set_cons_succ]
        refine name_world (F := fun X => Below W3.heap.size W3 X ∧ GBox X bo #[.slice none 0 0, .slice none 0 0, .slice none 0 0, .slice none 0 0]) ⟨(below_then HBY0 hba), hbx⟩ (fun Y1 hF => ?_)
        obtain ⟨HBY1, HbY1⟩ := hF
        have hHeld : (fun WW : World => GBox WW br #[.slice NA n1 nc, .slice EA n2 ec, .slice VA n3 vc, .slice UA n4 uc]) Y1 := ((HBY1.block br HBR.out).trans HR3.out)
        clear hba hbx
        clear HBY0
        refine one_step (i := 2) (by kernel_rfl) rfl (fun K hK => ?_)
        go_simp
        go_at_call 21
        go_loud (refine (HCT1.out Y1 (below_then HBW3.out HBY1)).mono ?_)
        rintro e Z ⟨v, t1, rfl, hI⟩
        obtain ⟨A1, k1, hv, hrz⟩ := hI.slice HN.out.1 (by have := hN; omega)
        subst hv
        have hbz := hI.below
        have HC1 := Aside0.mk hI.con
        refine hK.out _ _ (((below_then HBY1 hbz).block br HBR.out).trans HR3.out) (fun hHeld => ?_)
        clear hHeld hK K
        try simp only [Act.put, List.setIfInBounds_toArray, List.set_cons_zero, List.set_cons_succ]
        refine name_world (F := fun X => Below W3.heap.size W3 X ∧ ReadsT X A1 t1 ∧ GBox X bo #[.slice none 0 0, .slice none 0 0, .slice none 0 0, .slice none 0 0]) ⟨(below_then HBY1 hbz), hrz, ((hbz.block bo (Array.getElem?_eq_some_iff.1 HbY1).1).trans HbY1)⟩ (fun Y2 hF => ?_)
        obtain ⟨HBY2, H1Y2, HbY2⟩ := hF
        have hHeld : (fun WW : World => GBox WW br #[.slice NA n1 nc, .slice EA n2 ec, .slice VA n3 vc, .slice UA n4 uc]) Y2 := ((HBY2.block br HBR.out).trans HR3.out)
        clear hI hrz hbz
        clear HBY1 HbY1
        refine one_step (i := 5) (by kernel_rfl) rfl (fun K hK => ?_)
        go_simp
        go_at_call 21
        go_loud (refine (HCT2.out Y2 (below_then HBW3.out HBY2)).mono ?_)
        rintro e Z ⟨v, t2, rfl, hI⟩
        obtain ⟨A2, k2, hv, hrz⟩ := hI.slice HN.out.2.1 (by have := hN; omega)
        subst hv
        have hbz := hI.below
        have HC2 := Aside0.mk hI.con
        refine hK.out _ _ (((below_then HBY2 hbz).block br HBR.out).trans HR3.out) (fun hHeld => ?_)
        clear hHeld hK K
        try simp only [Act.put, List.setIfInBounds_toArray, List.set_cons_zero, List.set_cons_succ]
        refine name_world (F := fun X => Below W3.heap.size W3 X ∧ ReadsT X A1 t1 ∧ ReadsT X A2 t2 ∧ GBox X bo #[.slice none 0 0, .slice none 0 0, .slice none 0 0, .slice none 0 0]) ⟨(below_then HBY2 hbz), (H1Y2.below hbz), hrz, ((hbz.block bo (Array.getElem?_eq_some_iff.1 HbY2).1).trans HbY2)⟩ (fun Y3 hF => ?_)
        obtain ⟨HBY3, H1Y3, H2Y3, HbY3⟩ := hF
        have hHeld : (fun WW : World => GBox WW br #[.slice NA n1 nc, .slice EA n2 ec, .slice VA n3 vc, .slice UA n4 uc]) Y3 := ((HBY3.block br HBR.out).trans HR3.out)
        clear hI hrz hbz
        clear HBY2 H1Y2 HbY2
        refine one_step (i := 8) (by kernel_rfl) rfl (fun K hK => ?_)
        go_simp
        have hcn := HCN.out Y3 (below_then HBW3.out HBY3)
        go_at_call 22
        go_loud (refine hcn.mono ?_)
        rintro e Z ⟨A3, k3, rfl, hoz, hbz⟩
        obtain ⟨B8, hB8⟩ : ∃ B8, B8 = Y3.heap.size := ⟨_, rfl⟩
        have HB8 : Aside0 (W3.heap.size ≤ B8) := ⟨by rw [hB8]; exact HBY3.size⟩
        have hz1 : ZT B8 Y3 A1 t1 := by rw [hB8]; exact ZT.of H1Y3
        have hz2 : ZT B8 Y3 A2 t2 := by rw [hB8]; exact ZT.of H2Y3
        rw [← hB8] at hoz
        have hk8 : ∀ k, k < B8 → Z.heap[k]? = Y3.heap[k]? := fun k hk => hbz.block k (by rw [← hB8]; exact hk)
        have hl8 : B8 ≤ Z.heap.size := by rw [hB8]; exact hbz.size
        clear hB8
        refine hK.out _ _ (((below_then HBY3 hbz).block br HBR.out).trans HR3.out) (fun hHeld => ?_)
        clear hHeld hK K
        try simp only [Act.put, List.setIfInBounds_toArray, List.set_cons_zero, List.set_cons_succ]
        refine name_world (F := fun X => Below W3.heap.size W3 X ∧ ZT B8 X A1 t1 ∧ ZT B8 X A2 t2 ∧ B8 ≤ X.heap.size ∧ X.ownsRow B8 52 3 (.slice A3 n3 k3) n3 (ns.flatMap cellsND) ∧ GBox X bo #[.slice none 0 0, .slice none 0 0, .slice none 0 0, .slice none 0 0]) ⟨(below_then HBY3 hbz), (hz1.keep hk8), (hz2.keep hk8), hl8, hoz, ((hbz.block bo (Array.getElem?_eq_some_iff.1 HbY3).1).trans HbY3)⟩ (fun Y4 hF => ?_)
        obtain ⟨HBY4, H1Y4, H2Y4, HLY4, H3Y4, HbY4⟩ := hF
        have hHeld : (fun WW : World => GBox WW br #[.slice NA n1 nc, .slice EA n2 ec, .slice VA n3 vc, .slice UA n4 uc]) Y4 := ((HBY4.block br HBR.out).trans HR3.out)
        clear hcn hoz hbz hz1 hz2 hk8 hl8
        clear HBY3 H1Y3 H2Y3 HbY3
        refine one_step (i := 11) (by kernel_rfl) rfl (fun K hK => ?_)
        go_simp
        have hcn := HCE.out Y4 (below_then HBW3.out HBY4)
        go_at_call 23
        go_loud (refine hcn.mono ?_)
        rintro e Z ⟨A4, k4, rfl, hoz, hbz⟩
        have hoz2 := own_base hoz HLY4
        refine hK.out _ _ (((below_then HBY4 hbz).block br HBR.out).trans HR3.out) (fun hHeld => ?_)
        clear hHeld hK K
        try simp only [Act.put, List.setIfInBounds_toArray, List.set_cons_zero, List.set_cons_succ]
        refine name_world (F := fun X => Below W3.heap.size W3 X ∧ ZT B8 X A1 t1 ∧ ZT B8 X A2 t2 ∧ B8 ≤ X.heap.size ∧ X.ownsRow B8 52 3 (.slice A3 n3 k3) n3 (ns.flatMap cellsND) ∧ X.ownsRow B8 55 5 (.slice A4 n4 k4) n4 (es.flatMap cellsED) ∧ GBox X bo #[.slice none 0 0, .slice none 0 0, .slice none 0 0, .slice none 0 0]) ⟨(below_then HBY4 hbz), (H1Y4.keep (fun k hk => hbz.block k (Nat.lt_of_lt_of_le hk HLY4))), (H2Y4.keep (fun k hk => hbz.block k (Nat.lt_of_lt_of_le hk HLY4))), (Nat.le_trans HLY4 hbz.size), (own_below H3Y4 hbz), hoz2, ((hbz.block bo (Array.getElem?_eq_some_iff.1 HbY4).1).trans HbY4)⟩ (fun Y5 hF => ?_)
        obtain ⟨HBY5, H1Y5, H2Y5, HLY5, H3Y5, H4Y5, HbY5⟩ := hF
        have hHeld : (fun WW : World => GBox WW br #[.slice NA n1 nc, .slice EA n2 ec, .slice VA n3 vc, .slice UA n4 uc]) Y5 := ((HBY5.block br HBR.out).trans HR3.out)
        clear hcn hoz hoz2 hbz
        clear HBY4 H1Y4 H2Y4 HLY4 H3Y4 HbY4
        refine take_in (i := 12) (v := .agg #[.slice A1 n1 k1, .slice A2 n2 k2, .slice A3 n3 k3, .slice A4 n4 k4]) rfl (by kernel_rfl) (by kernel_rfl) (by kernel_rfl) (fun _ _ _ h => h) (by rfl) ?hy12g35 (by assumption) ?_
        case hy12g35 => intro WW hSw; go_simp; try with_reducible rfl
        try simp only [Act.put, List.setIfInBounds_toArray, List.set_cons_zero, List.set_cons_succ]
        have hfz := GBox.free HbY5
        have hcl := GBox.cells HbY5
        refine one_step (i := 14) (by kernel_rfl) rfl (fun K hK => ?_)
        go_simp
        have hsx : ∀ k, k ≠ bo → ((((Y5.setCell ⟨bo, 0, none⟩ (.slice A1 n1 k1)).setCell ⟨bo, 1, none⟩ (.slice A2 n2 k2)).setCell ⟨bo, 2, none⟩ (.slice A3 n3 k3)).setCell ⟨bo, 3, none⟩ (.slice A4 n4 k4)).heap[k]? = Y5.heap[k]? := fun k h => by
          rw [heap_setCell_other _ ⟨bo, 3, none⟩ _ _ h, heap_setCell_other _ ⟨bo, 2, none⟩ _ _ h, heap_setCell_other _ ⟨bo, 1, none⟩ _ _ h, heap_setCell_other _ ⟨bo, 0, none⟩ _ _ h]
        refine hK.out _ _ ((hsx br (by have := HBO.out; have := HBR.out; omega)).trans ((HBY5.block br HBR.out).trans HR3.out)) (fun hHeld => ?_)
        clear hHeld hK K
        try simp only [Act.put, List.setIfInBounds_toArray, List.set_cons_zero, List.set_cons_succ]
        refine wpAnyH_done (by kernel_rfl) ?_ _
        go_wp2
        go_meet
        case rel =>
          have hw3 := HBW3.out.size
          have hx : w.heap.size ≤ bo := Nat.le_trans hw3 HBO.out
          have hbw := below_then HBW3.out HBY5
          refine ⟨bo, B8, A1, k1, t1, A2, k2, t2, A3, k3, A4, k4, rfl, below_set (below_set (below_set (below_set hbw (p := ⟨bo, 0, none⟩) hx _) (p := ⟨bo, 1, none⟩) hx _) (p := ⟨bo, 2, none⟩) hx _) (p := ⟨bo, 3, none⟩) hx _, (((HbY5.put 0 _).put 1 _).put 2 _).put 3 _, HBO.out, HB8.out, by have := HLY5; simp; omega, fun k h => (hsx k (by have := HBO.out; omega)).trans (HBY5.block k h), ?_, HC1.out, ?_, HC2.out, ?_, ?_⟩
          · exact H1Y5.keep_box HbY5 (slices4 _ _ _ _ _ _ _ _ _ _ _ _) (fun k _ h => hsx k h)
          · exact H2Y5.keep_box HbY5 (slices4 _ _ _ _ _ _ _ _ _ _ _ _) (fun k _ h => hsx k h)
          · exact own_keep H3Y5 (fun k e => hsx k (fun e2 => own_tag H3Y5 HbY5 (by decide) (by rw [e, e2])))
          · exact own_keep H4Y5 (fun k e => hsx k (fun e2 => own_tag H4Y5 HbY5 (by decide) (by rw [e, e2])))
    case rest =>
      obtain ⟨bo, B8, A1, k1, t1, A2, k2, t2, A3, k3, A4, k4, rfl, hbw, hbx, hbo, hb8, hb8c, hk3, hz1, hc1, hz2, hc2, ho3, ho4⟩ := hcut
      have HBWC := Aside0.mk hbw
      have HOX := Aside0.mk hbx
      have HBO := Aside0.mk hbo
      have HB8 := Aside0.mk (And.intro hb8 hb8c)
      have HK3 := Aside0.mk hk3
      have HZT1 := Aside0.mk hz1
      have HC1 := Aside0.mk hc1
      have HZT2 := Aside0.mk hz2
      have HC2 := Aside0.mk hc2
      have HO3 := Aside0.mk ho3
      have HO4 := Aside0.mk ho4
      have HNB3 := Aside0.mk (own_tag ho3 hbx (by decide))
      have HNB4 := Aside0.mk (own_tag ho4 hbx (by decide))
      have HNE := Aside0.mk (own_two ho3 ho4 (by decide))
      have HNS : Aside0 (ToldN wc.heap.size w nts ns (.slice A3 n3 k3) wc 0 ns) := ⟨ToldN.first HG.out.ns (by rw [← HN.out.2.2.1]; exact own_base ho3 (Nat.le_trans HBW3.out.size hb8)) hbw⟩
      have HBOX : Aside0 (∀ X : World, wc.grownBy X (Value.slice A3 n3 k3).ownBlock → GBox X bo #[.slice A1 n1 k1, .slice A2 n2 k2, .slice A3 n3 k3, .slice A4 n4 k4]) := ⟨fun X h => (h.block bo (Array.getElem?_eq_some_iff.1 HOX.out).1 (fun e => HNB3.out e.symm)).trans HOX.out⟩
      have HBRG : Aside0 (∀ k, (Value.slice A3 n3 k3).ownBlock = some k → br < k) := ⟨fun k e => by have := (HO3.out.lt k e).1; have := HBR.out; have := HB8.out; omega⟩
      have HBRX : Aside0 (∀ X : World, wc.grownBy X (Value.slice A3 n3 k3).ownBlock → GBox X br #[.slice NA n1 nc, .slice EA n2 ec, .slice VA n3 vc, .slice UA n4 uc]) := ⟨fun X h => (h.block br (by have := HBR.out; have := HB8.out; omega) (fun e => by have := HBRG.out br e.symm; omega)).trans ((HK3.out br HBR.out).trans HR3.out)⟩
      have hoc := hbx.cells
      clear hbw hbx hbo hb8 hb8c hk3 hz1 hc1 hz2 hc2 ho3 ho4
      go_wp2
      clear hoc
      go_loopg [36] (n3 + 1) (fun gg s36 wx => ∃ (j : Nat), j ≤ n3 ∧ n3 < gg + j ∧ s36 = .int .i64 j ∧ ∃ ns2, Aside0 (ToldN wc.heap.size w nts ns (Value.slice A3 n3 k3) wx j ns2) ∧ Aside0 (wc.grownBy wx (Value.slice A3 n3 k3).ownBlock))
      case atStart => exact ⟨0, by omega, by omega, rfl, ns, HNS, ⟨World.grownBy.refl _ _⟩⟩
      case round =>
        obtain ⟨j, hj, hg, rfl, ns2, HI, HGR⟩ := hrel
        have HO := HI.out.own
        rw [← HN.out.2.2.1] at HO
        have hj0 : (0 : Int) ≤ (j : Int) := by omega
        by_cases hjt : j < n3
        · have hjti : (j : Int) < (n3 : Int) := by omega
          have hjl : j < ns2.length := by have := HI.out.len; have := HN.out; omega
          have hjo : j < ns.length := by have := HN.out; omega
          obtain ⟨g, hAg⟩ : ∃ g, A3 = some ⟨g, 0, none⟩ := by
            rcases HO.2 with ⟨e, e2⟩ | ⟨g, cap, cur, e, _⟩
            · omega
            · exact ⟨g, (Value.slice.inj e).1⟩
          subst hAg
          obtain ⟨x, hx⟩ : ∃ x, x = ns2.getD j ND.zero := ⟨_, rfl⟩
          have hxm : x ∈ ns2 := by rw [hx]; exact getD_in ns2 ND.zero j hjl
          have hgx := HI.out.good x hxm
          have hca := HI.out.con_at hjo
          rw [← hx] at hca
          have hmo : ns.getD j ND.zero ∈ ns := getD_in ns ND.zero j hjo
          have hlab : x.lb.data.toList ∈ nts.map TD.key ∧ fitsB (typeOf nts x.lb.data.toList).ps [] x.qs = true := by
            have h := HF.out.nlab _ hmo
            have e1 : x.lb = (ns.getD j ND.zero).lb := congrArg (fun p => p.2.1) hca
            have e2 : x.qs = (ns.getD j ND.zero).qs := congrArg (fun p => p.2.2) hca
            rw [e1, e2]
            exact h
          obtain ⟨tl, htl⟩ : ∃ tl, tl = toldL (typeOf nts x.lb.data.toList).ps x.qs := ⟨_, rfl⟩
          have htlb : tl.length < 1000000000000 := by rw [htl]; exact told_small HF.out.nt.2 hlab.1 hlab.2
          obtain ⟨lt, hlt⟩ : ∃ lt, lt = tl.length := ⟨_, rfl⟩
          have hx0 : wr.cell? ⟨g, j * 3, none⟩ = some (.int .i64 x.id) := by
            have h := HO.cells (g := g) rfl (j * 3 + 0) _ (flat_at cellsND 3 ND.zero cellsND_len ns2 j 0 hjl (by decide))
            rw [add_zero_, ← hx] at h
            exact h
          have hx1 : wr.cell? ⟨g, j * 3 + 1, none⟩ = some (.string x.lb) := by
            have h := HO.cells (g := g) rfl (j * 3 + 1) _ (flat_at cellsND 3 ND.zero cellsND_len ns2 j 1 hjl (by decide))
            rw [add_zero_, ← hx] at h
            exact h
          have hx2 : wr.cell? ⟨g, j * 3 + 2, none⟩ = some (.slice x.A x.qs.length x.c) := by
            have h := HO.cells (g := g) rfl (j * 3 + 2) _ (flat_at cellsND 3 ND.zero cellsND_len ns2 j 2 hjl (by decide))
            rw [add_zero_, ← hx] at h
            exact h
          have HTD : Aside0 (∀ Z, Below wr.heap.size wr Z → Calls Tryd.prog 24 #[.slice NA n1 nc, .string x.lb, .slice x.A x.qs.length x.c] Z fun e w' => ∃ A2 c2, e = .returned (.slice A2 lt c2) ∧ w'.ownsRow Z.heap.size 96 6 (.slice A2 lt c2) lt (tl.flatMap cellsQD) ∧ Below Z.heap.size Z w') := ⟨fun Z h => by
            have hh := told_any nts NA nc x.lb x.qs x.A x.c Z (HG.out.nts.below (below_then HI.out.below h)) (hgx.2.below h) hlab.1 (by rw [← htl]; exact htlb)
            rw [← htl, ← hlt, ← HN.out.1] at hh
            exact hh⟩
          have HX := Aside0.mk hx
          have HTL := Aside0.mk (And.intro htl (And.intro hlt htlb))
          have HXQ := Aside0.mk (And.intro hjl (And.intro hxm hgx))
          have hog := HO.lt g rfl
          have hgn : g ≠ bo := fun e => HNB3.out (by rw [e]; rfl)
          have HGN := Aside0.mk (And.intro hog hgn)
          have hbo := HBOX.out wr HGR.out
          have hbr := HBRX.out wr HGR.out
          have hbo2 : wr.cell? ⟨bo, 2, none⟩ = some (.slice (some ⟨g, 0, none⟩) n3 k3) := hbo.cells 2
          have hbr2 : wr.cell? ⟨br, 0, none⟩ = some (.slice NA n1 nc) := hbr.cells 0
          have HCC := Aside0.mk (And.intro hbo2 (And.intro hbr2 (And.intro (lt_cell hbo2) (lt_cell hbr2))))
          have HFZ := Aside0.mk (And.intro (HO.frozenAt (j * 3 + 2)) hx2)
          obtain ⟨xid, xlb, xA, xqs, xc⟩ := x
          simp only at hx0 hx1 hx2 HTD
          have HJ := Aside0.mk (And.intro hjt hg)
          obtain ⟨GJ, hGJ⟩ : ∃ GJ, GJ = gk := ⟨_, rfl⟩
          have HGJ := Aside0.mk hGJ
          rw [← hGJ] at HJ
          clear hGJ hx hxm hgx hca hmo hlab htl htlb hlt hj hg hjl hjo hog hgn hbo hbr hbo2 hbr2 HO
          go_upto_region 8 with (fail)
          obtain ⟨W5, hW5⟩ : ∃ W5, W5 = wr.alloc (.cells #[.int .i64 xid, .string xlb, .slice xA xqs.length xc] 52) := ⟨_, rfl⟩
          obtain ⟨bx, hbx⟩ : ∃ bx, bx = wr.heap.size := ⟨_, rfl⟩
          have HX5 : Aside0 (NBox W5 bx #[.int .i64 xid, .string xlb, .slice xA xqs.length xc]) := ⟨by rw [hW5, hbx]; exact heap_alloc_new wr _⟩
          have HB5 : Aside0 (Below wr.heap.size wr W5) := ⟨by rw [hW5]; exact below_more (Below.refl _ _) _⟩
          have HBX5 : Aside0 (bx = wr.heap.size) := ⟨hbx⟩
          rw [← hW5, ← hbx]
          have HSX : Aside0 (∀ X : World, Below W5.heap.size W5 X → (fun WW : World => WW.cell? ⟨bo, 2, none⟩ = some (.slice (some ⟨g, 0, none⟩) n3 k3) ∧ WW.cell? ⟨br, 0, none⟩ = some (.slice NA n1 nc) ∧ NBox WW bx #[.int .i64 xid, .string xlb, .slice xA xqs.length xc]) X) := ⟨fun X h => by
            have h2 := below_then HB5.out h
            exact ⟨(h2.cell (p := ⟨bo, 2, none⟩) HCC.out.2.2.1).trans HCC.out.1, (h2.cell (p := ⟨br, 0, none⟩) HCC.out.2.2.2).trans HCC.out.2.1, HX5.out.below h⟩⟩
          clear hW5 hbx hx0 hx1 hx2
          refine wp_region_held_drew (S := (fun WW : World => WW.cell? ⟨bo, 2, none⟩ = some (.slice (some ⟨g, 0, none⟩) n3 k3) ∧ WW.cell? ⟨br, 0, none⟩ = some (.slice NA n1 nc) ∧ NBox WW bx #[.int .i64 xid, .string xlb, .slice xA xqs.length xc])) (by kernel_rfl) ?_ (fun hHeld => ?_)
          · exact HSX.out _ (by first | exact Below.refl _ _ | exact (Below.refl _ _).drew | exact (Below.refl _ _).drew.drew)
          refine take_in (i := 0) (v := ?v0N12) rfl (by kernel_rfl) (by kernel_rfl) (by kernel_rfl) (fun _ _ _ h => h) (by rfl) ?hy0N12 (by assumption) ?_
          case hy0N12 => intro WW hSw; obtain ⟨s0, s1, s2⟩ := hSw; have s3 := s2.cells; go_simp; try with_reducible rfl
          try simp only [Act.put, List.setIfInBounds_toArray, List.set_cons_zero, List.set_cons_succ]
          refine take_in (i := 1) (v := ?v1N13) rfl (by kernel_rfl) (by kernel_rfl) (by kernel_rfl) (fun _ _ _ h => h) (by rfl) ?hy1N13 (by assumption) ?_
          case hy1N13 => intro WW hSw; obtain ⟨s0, s1, s2⟩ := hSw; have s3 := s2.cells; go_simp; try with_reducible rfl
          try simp only [Act.put, List.setIfInBounds_toArray, List.set_cons_zero, List.set_cons_succ]
          refine take_in (i := 2) (v := ?v2N14) rfl (by kernel_rfl) (by kernel_rfl) (by kernel_rfl) (fun _ _ _ h => h) (by rfl) ?hy2N14 (by assumption) ?_
          case hy2N14 => intro WW hSw; obtain ⟨s0, s1, s2⟩ := hSw; have s3 := s2.cells; go_simp; try with_reducible rfl
          try simp only [Act.put, List.setIfInBounds_toArray, List.set_cons_zero, List.set_cons_succ]
          refine take_in (i := 3) (v := ?v3N15) rfl (by kernel_rfl) (by kernel_rfl) (by kernel_rfl) (fun _ _ _ h => h) (by rfl) ?hy3N15 (by assumption) ?_
          case hy3N15 => intro WW hSw; obtain ⟨s0, s1, s2⟩ := hSw; have s3 := s2.cells; go_simp; try with_reducible rfl
          try simp only [Act.put, List.setIfInBounds_toArray, List.set_cons_zero, List.set_cons_succ]
          refine take_in (i := 4) (v := ?v4N16) rfl (by kernel_rfl) (by kernel_rfl) (by kernel_rfl) (fun _ _ _ h => h) (by rfl) ?hy4N16 (by assumption) ?_
          case hy4N16 => intro WW hSw; obtain ⟨s0, s1, s2⟩ := hSw; have s3 := s2.cells; go_simp; try with_reducible rfl
          try simp only [Act.put, List.setIfInBounds_toArray, List.set_cons_zero, List.set_cons_succ]
          refine take_in (i := 5) (v := ?v5N17) rfl (by kernel_rfl) (by kernel_rfl) (by kernel_rfl) (fun _ _ _ h => h) (by rfl) ?hy5N17 (by assumption) ?_
          case hy5N17 => intro WW hSw; obtain ⟨s0, s1, s2⟩ := hSw; have s3 := s2.cells; go_simp; try with_reducible rfl
          try simp only [Act.put, List.setIfInBounds_toArray, List.set_cons_zero, List.set_cons_succ]
          refine take_in (i := 6) (v := ?v6N18) rfl (by kernel_rfl) (by kernel_rfl) (by kernel_rfl) (fun _ _ _ h => h) (by rfl) ?hy6N18 (by assumption) ?_
          case hy6N18 => intro WW hSw; obtain ⟨s0, s1, s2⟩ := hSw; have s3 := s2.cells; go_simp; try with_reducible rfl
          try simp only [Act.put, List.setIfInBounds_toArray, List.set_cons_zero, List.set_cons_succ]
          refine take_in (i := 7) (v := ?v7N19) rfl (by kernel_rfl) (by kernel_rfl) (by kernel_rfl) (fun _ _ _ h => h) (by rfl) ?hy7N19 (by assumption) ?_
          case hy7N19 => intro WW hSw; obtain ⟨s0, s1, s2⟩ := hSw; have s3 := s2.cells; go_simp; try with_reducible rfl
          try simp only [Act.put, List.setIfInBounds_toArray, List.set_cons_zero, List.set_cons_succ]
          refine take_in (i := 8) (v := ?v8N20) rfl (by kernel_rfl) (by kernel_rfl) (by kernel_rfl) (fun _ _ _ h => h) (by rfl) ?hy8N20 (by assumption) ?_
          case hy8N20 => intro WW hSw; obtain ⟨s0, s1, s2⟩ := hSw; have s3 := s2.cells; go_simp; try with_reducible rfl
          try simp only [Act.put, List.setIfInBounds_toArray, List.set_cons_zero, List.set_cons_succ]
          refine name_world (F := fun X => Below W5.heap.size W5 X) (by first | exact Below.refl _ _ | exact (Below.refl _ _).drew | exact (Below.refl _ _).drew.drew) (fun Z0 HZ0 => ?_)
          clear hHeld
          have hHeld : (fun WW : World => WW.cell? ⟨bo, 2, none⟩ = some (.slice (some ⟨g, 0, none⟩) n3 k3) ∧ WW.cell? ⟨br, 0, none⟩ = some (.slice NA n1 nc) ∧ NBox WW bx #[.int .i64 xid, .string xlb, .slice xA xqs.length xc]) Z0 := HSX.out _ HZ0
          refine one_step (i := 9) (by kernel_rfl) rfl (fun K hK => ?_)
          have htd := HTD.out Z0 (below_then HB5.out HZ0)
          go_simp
          go_at_call 24
          go_loud (refine htd.mono ?_)
          rintro e Z1 ⟨A5, c5, rfl, ho5, hb5⟩
          clear htd
          have HZ1 : Below W5.heap.size W5 Z1 := below_then HZ0 hb5
          have ho6 := own_base ho5 (Nat.le_trans HB5.out.size HZ0.size)
          refine hK.out _ _ (HSX.out _ HZ1) (fun hHeld => ?_)
          clear hHeld hK K
          try simp only [Act.put, List.setIfInBounds_toArray, List.set_cons_zero, List.set_cons_succ]
          refine name_world (F := fun X => Below W5.heap.size W5 X ∧ X.ownsRow wr.heap.size 96 6 (.slice A5 lt c5) lt (tl.flatMap cellsQD)) ⟨HZ1, ho6⟩ (fun Z2 hF => ?_)
          obtain ⟨HZ2, ho7⟩ := hF
          have hHeld : (fun WW : World => WW.cell? ⟨bo, 2, none⟩ = some (.slice (some ⟨g, 0, none⟩) n3 k3) ∧ WW.cell? ⟨br, 0, none⟩ = some (.slice NA n1 nc) ∧ NBox WW bx #[.int .i64 xid, .string xlb, .slice xA xqs.length xc]) Z2 := HSX.out _ HZ2
          clear HZ1 ho5 ho6 hb5 HZ0
          refine take_in (i := 10) (v := ?v10N21) rfl (by kernel_rfl) (by kernel_rfl) (by kernel_rfl) (fun _ _ _ h => h) (by rfl) ?hy10N21 (by assumption) ?_
          case hy10N21 => intro WW hSw; obtain ⟨s0, s1, s2⟩ := hSw; have s3 := s2.cells; go_simp; try with_reducible rfl
          try simp only [Act.put, List.setIfInBounds_toArray, List.set_cons_zero, List.set_cons_succ]
          refine take_in (i := 11) (v := ?v11N22) rfl (by kernel_rfl) (by kernel_rfl) (by kernel_rfl) (fun _ _ _ h => h) (by rfl) ?hy11N22 (by assumption) ?_
          case hy11N22 => intro WW hSw; obtain ⟨s0, s1, s2⟩ := hSw; have s3 := s2.cells; go_simp; try with_reducible rfl
          try simp only [Act.put, List.setIfInBounds_toArray, List.set_cons_zero, List.set_cons_succ]
          have hbW := below_then HB5.out HZ2
          have hcl : Z2.cell? ⟨g, j * 3 + 2, none⟩ = some (.slice xA xqs.length xc) := (hbW.cell (p := ⟨g, j * 3 + 2, none⟩) HGN.out.1.2).trans HFZ.out.2
          have hfz : Z2.frozen? ⟨g, j * 3 + 2, none⟩ = false := (hbW.frozen (p := ⟨g, j * 3 + 2, none⟩) HGN.out.1.2).trans HFZ.out.1
          refine one_step (i := 12) (by kernel_rfl) rfl (fun K hK => ?_)
          go_simp
          have hsx : ∀ b, b ≠ g → (Z2.setCell ⟨g, j * 3 + 2, none⟩ (.slice A5 lt c5)).heap[b]? = Z2.heap[b]? := fun b h => heap_setCell_other _ ⟨g, j * 3 + 2, none⟩ _ _ h
          refine hK.out _ _ ⟨(World.cell?_of_block (a := ⟨bo, 2, none⟩) (hsx bo (fun e => HGN.out.2 e.symm))).trans (HSX.out _ HZ2).1, (World.cell?_of_block (a := ⟨br, 0, none⟩) (hsx br (by have h1 := HGN.out.1.1; have h2 := HBRG.out g rfl; omega))).trans (HSX.out _ HZ2).2.1, (hsx bx (by have := HBX5.out; have := HGN.out.1.2; omega)).trans (HSX.out _ HZ2).2.2⟩ (fun hHeld => ?_)
          clear hHeld hK K
          try simp only [Act.put, List.setIfInBounds_toArray, List.set_cons_zero, List.set_cons_succ]
          refine wpAnyH_done (by kernel_rfl) ?_ _
          have HST : Aside0 (ToldN wc.heap.size w nts ns (.slice (some ⟨g, 0, none⟩) n3 k3) (Z2.setCell ⟨g, j * 3 + 2, none⟩ (.slice A5 lt c5)) (j + 1) (ns2.set j ⟨xid, xlb, A5, tl, c5⟩)) := ⟨by
            have hl := HTL.out.2.1
            have ho8 := ho7
            rw [hl] at ho8
            obtain ⟨A6, c6, hv6, hr6, hf6⟩ := readsQ_own_at ho8 (by have := HTL.out.2.2; omega) (fun q hq => by
              have hq2 : q ∈ xqs := toldL_mem (by rw [← HTL.out.1]; exact hq)
              exact (HXQ.out.2.2.2.all q hq2).below hbW)
            cases hv6
            have h := HI.out.step (A3 := A5) (c3 := c5) (l := tl) HXQ.out.1 hbW (by rw [← HX.out]; exact HTL.out.1) hr6 (fun ad e => (hf6 ad e).1) HGR.out.size
            rw [← hl, ← HX.out] at h
            exact h⟩
          have HGS : Aside0 (wc.grownBy (Z2.setCell ⟨g, j * 3 + 2, none⟩ (.slice A5 lt c5)) (Value.slice (some ⟨g, 0, none⟩) n3 k3).ownBlock) := ⟨grow_trans HGR.out (grow_trans (grown_below hbW) (grow_set _ _ _ _))⟩
          clear ho7 hbW hcl hfz hsx HZ2
          go_wp2
          go_roundg (GJ - 1)
          case measure => have := HJ.out; have := HGJ.out; omega
          case rel => exact ⟨j + 1, by have := HJ.out; omega, by have := HJ.out; omega, by first | rfl | go_num, _, HST, HGS⟩
        · have hjn : j = n3 := by omega
          subst j
          obtain ⟨wd, rfl⟩ : ∃ wd : World, wd = wr := ⟨_, rfl⟩
          have HN2 := HI
          have HGD := HGR
          clear HO HI HGR hjt hj0 hj hg
          have hbo := HBOX.out wd HGD.out
          have hoc := hbo.cells
          have ho4d : wd.ownsRow B8 55 5 (.slice A4 n4 k4) n4 (es.flatMap cellsED) := own_keep HO4.out (fun k e => HGD.out.block k (HO4.out.lt k e).2 (fun e2 => HNE.out k e2.symm e))
          have HES : Aside0 (ToldE wd.heap.size w ets es (.slice A4 n4 k4) wd 0 es) := ⟨ToldE.first HG.out.es (by rw [← HN.out.2.2.2]; exact own_base ho4d (Nat.le_trans HBW3.out.size HB8.out.1)) HN2.out.below⟩
          have HBRD := Aside0.mk (HBRX.out wd HGD.out)
          have HBOD := Aside0.mk hbo
          clear HBOX HBRX HBRG
          have HBOX : Aside0 (∀ X : World, wd.grownBy X (Value.slice A4 n4 k4).ownBlock → GBox X bo #[.slice A1 n1 k1, .slice A2 n2 k2, .slice A3 n3 k3, .slice A4 n4 k4]) := ⟨fun X h => (h.block bo (Array.getElem?_eq_some_iff.1 HBOD.out).1 (fun e => HNB4.out e.symm)).trans HBOD.out⟩
          have HBRG : Aside0 (∀ k, (Value.slice A4 n4 k4).ownBlock = some k → br < k) := ⟨fun k e => by have := (HO4.out.lt k e).1; have := HBR.out; have := HB8.out; omega⟩
          have HBRX : Aside0 (∀ X : World, wd.grownBy X (Value.slice A4 n4 k4).ownBlock → GBox X br #[.slice NA n1 nc, .slice EA n2 ec, .slice VA n3 vc, .slice UA n4 uc]) := ⟨fun X h => (h.block br (Array.getElem?_eq_some_iff.1 HBRD.out).1 (fun e => by have := HBRG.out br e.symm; omega)).trans HBRD.out⟩
          clear hbo ho4d
          go_wp2
          clear hoc
          go_loopg [57] (n4 + 1) (fun gg s57 wx => ∃ (j : Nat), j ≤ n4 ∧ n4 < gg + j ∧ s57 = .int .i64 j ∧ ∃ es2, Aside0 (ToldE wd.heap.size w ets es (Value.slice A4 n4 k4) wx j es2) ∧ Aside0 (wd.grownBy wx (Value.slice A4 n4 k4).ownBlock))
          case atStart => exact ⟨0, by omega, by omega, rfl, es, HES, ⟨World.grownBy.refl _ _⟩⟩
          case round =>
            obtain ⟨j, hj, hg, rfl, es2, HI, HGR⟩ := hrel
            have HO := HI.out.own
            rw [← HN.out.2.2.2] at HO
            have hj0 : (0 : Int) ≤ (j : Int) := by omega
            by_cases hjt : j < n4
            · have hjti : (j : Int) < (n4 : Int) := by omega
              have hjl : j < es2.length := by have := HI.out.len; have := HN.out; omega
              have hjo : j < es.length := by have := HN.out; omega
              obtain ⟨g, hAg⟩ : ∃ g, A4 = some ⟨g, 0, none⟩ := by
                rcases HO.2 with ⟨e, e2⟩ | ⟨g, cap, cur, e, _⟩
                · omega
                · exact ⟨g, (Value.slice.inj e).1⟩
              subst hAg
              obtain ⟨x, hx⟩ : ∃ x, x = es2.getD j ED.zero := ⟨_, rfl⟩
              have hxm : x ∈ es2 := by rw [hx]; exact getD_in es2 ED.zero j hjl
              have hgx := HI.out.good x hxm
              have hca := HI.out.con_at hjo
              rw [← hx] at hca
              have hmo : es.getD j ED.zero ∈ es := getD_in es ED.zero j hjo
              have hlab : x.lb.data.toList ∈ ets.map TD.key ∧ fitsB (typeOf ets x.lb.data.toList).ps [] x.qs = true := by
                have h := HF.out.elab_ _ hmo
                have e1 : x.lb = (es.getD j ED.zero).lb := congrArg (fun p => p.2.1) hca
                have e2 : x.qs = (es.getD j ED.zero).qs := congrArg (fun p => p.2.2.2.2) hca
                rw [e1, e2]
                exact h
              obtain ⟨tl, htl⟩ : ∃ tl, tl = toldL (typeOf ets x.lb.data.toList).ps x.qs := ⟨_, rfl⟩
              have htlb : tl.length < 1000000000000 := by rw [htl]; exact told_small HF.out.et.2 hlab.1 hlab.2
              obtain ⟨lt, hlt⟩ : ∃ lt, lt = tl.length := ⟨_, rfl⟩
              have hx0 : wr.cell? ⟨g, j * 5, none⟩ = some (.int .i64 x.id) := by
                have h := HO.cells (g := g) rfl (j * 5 + 0) _ (flat_at cellsED 5 ED.zero cellsED_len es2 j 0 hjl (by decide))
                rw [add_zero_, ← hx] at h
                exact h
              have hx1 : wr.cell? ⟨g, j * 5 + 1, none⟩ = some (.string x.lb) := by
                have h := HO.cells (g := g) rfl (j * 5 + 1) _ (flat_at cellsED 5 ED.zero cellsED_len es2 j 1 hjl (by decide))
                rw [add_zero_, ← hx] at h
                exact h
              have hx2 : wr.cell? ⟨g, j * 5 + 2, none⟩ = some (.int .i64 x.f) := by
                have h := HO.cells (g := g) rfl (j * 5 + 2) _ (flat_at cellsED 5 ED.zero cellsED_len es2 j 2 hjl (by decide))
                rw [add_zero_, ← hx] at h
                exact h
              have hx3 : wr.cell? ⟨g, j * 5 + 3, none⟩ = some (.int .i64 x.t) := by
                have h := HO.cells (g := g) rfl (j * 5 + 3) _ (flat_at cellsED 5 ED.zero cellsED_len es2 j 3 hjl (by decide))
                rw [add_zero_, ← hx] at h
                exact h
              have hx4 : wr.cell? ⟨g, j * 5 + 4, none⟩ = some (.slice x.A x.qs.length x.c) := by
                have h := HO.cells (g := g) rfl (j * 5 + 4) _ (flat_at cellsED 5 ED.zero cellsED_len es2 j 4 hjl (by decide))
                rw [add_zero_, ← hx] at h
                exact h
              have HTD : Aside0 (∀ Z, Below wr.heap.size wr Z → Calls Tryd.prog 24 #[.slice EA n2 ec, .string x.lb, .slice x.A x.qs.length x.c] Z fun e w' => ∃ A2 c2, e = .returned (.slice A2 lt c2) ∧ w'.ownsRow Z.heap.size 96 6 (.slice A2 lt c2) lt (tl.flatMap cellsQD) ∧ Below Z.heap.size Z w') := ⟨fun Z h => by
                have hh := told_any ets EA ec x.lb x.qs x.A x.c Z (HG.out.ets.below (below_then HI.out.below h)) (hgx.2.2.below h) hlab.1 (by rw [← htl]; exact htlb)
                rw [← htl, ← hlt, ← HN.out.2.1] at hh
                exact hh⟩
              have HX := Aside0.mk hx
              have HTL := Aside0.mk (And.intro htl (And.intro hlt htlb))
              have HXQ := Aside0.mk (And.intro hjl (And.intro hxm hgx))
              have hog := HO.lt g rfl
              have hgn : g ≠ bo := fun e => HNB4.out (by rw [e]; rfl)
              have HGN := Aside0.mk (And.intro hog hgn)
              have hbo := HBOX.out wr HGR.out
              have hbr := HBRX.out wr HGR.out
              have hbo2 : wr.cell? ⟨bo, 3, none⟩ = some (.slice (some ⟨g, 0, none⟩) n4 k4) := hbo.cells 3
              have hbr2 : wr.cell? ⟨br, 1, none⟩ = some (.slice EA n2 ec) := hbr.cells 1
              have HCC := Aside0.mk (And.intro hbo2 (And.intro hbr2 (And.intro (lt_cell hbo2) (lt_cell hbr2))))
              have HFZ := Aside0.mk (And.intro (HO.frozenAt (j * 5 + 4)) hx4)
              obtain ⟨xid, xlb, xf, xt, xA, xqs, xc⟩ := x
              simp only at hx0 hx1 hx2 hx3 hx4 HTD
              have HJ := Aside0.mk (And.intro hjt hg)
              obtain ⟨GJ, hGJ⟩ : ∃ GJ, GJ = gk := ⟨_, rfl⟩
              have HGJ := Aside0.mk hGJ
              rw [← hGJ] at HJ
              clear hGJ hx hxm hgx hca hmo hlab htl htlb hlt hj hg hjl hjo hog hgn hbo hbr hbo2 hbr2 HO
              go_upto_region 13 with (fail)
              obtain ⟨W5, hW5⟩ : ∃ W5, W5 = wr.alloc (.cells #[.int .i64 xid, .string xlb, .int .i64 xf, .int .i64 xt, .slice xA xqs.length xc] 55) := ⟨_, rfl⟩
              obtain ⟨bx, hbx⟩ : ∃ bx, bx = wr.heap.size := ⟨_, rfl⟩
              have HX5 : Aside0 (EBox W5 bx #[.int .i64 xid, .string xlb, .int .i64 xf, .int .i64 xt, .slice xA xqs.length xc]) := ⟨by rw [hW5, hbx]; exact heap_alloc_new wr _⟩
              have HB5 : Aside0 (Below wr.heap.size wr W5) := ⟨by rw [hW5]; exact below_more (Below.refl _ _) _⟩
              have HBX5 : Aside0 (bx = wr.heap.size) := ⟨hbx⟩
              rw [← hW5, ← hbx]
              have HSX : Aside0 (∀ X : World, Below W5.heap.size W5 X → (fun WW : World => WW.cell? ⟨bo, 3, none⟩ = some (.slice (some ⟨g, 0, none⟩) n4 k4) ∧ WW.cell? ⟨br, 1, none⟩ = some (.slice EA n2 ec) ∧ EBox WW bx #[.int .i64 xid, .string xlb, .int .i64 xf, .int .i64 xt, .slice xA xqs.length xc]) X) := ⟨fun X h => by
                have h2 := below_then HB5.out h
                exact ⟨(h2.cell (p := ⟨bo, 3, none⟩) HCC.out.2.2.1).trans HCC.out.1, (h2.cell (p := ⟨br, 1, none⟩) HCC.out.2.2.2).trans HCC.out.2.1, HX5.out.below h⟩⟩
              clear hW5 hbx hx0 hx1 hx2 hx3 hx4
              refine wp_region_held_drew (S := (fun WW : World => WW.cell? ⟨bo, 3, none⟩ = some (.slice (some ⟨g, 0, none⟩) n4 k4) ∧ WW.cell? ⟨br, 1, none⟩ = some (.slice EA n2 ec) ∧ EBox WW bx #[.int .i64 xid, .string xlb, .int .i64 xf, .int .i64 xt, .slice xA xqs.length xc])) (by kernel_rfl) ?_ (fun hHeld => ?_)
              · exact HSX.out _ (by first | exact Below.refl _ _ | exact (Below.refl _ _).drew | exact (Below.refl _ _).drew.drew)
              refine take_in (i := 0) (v := ?v0E1) rfl (by kernel_rfl) (by kernel_rfl) (by kernel_rfl) (fun _ _ _ h => h) (by rfl) ?hy0E1 (by assumption) ?_
              case hy0E1 => intro WW hSw; obtain ⟨s0, s1, s2⟩ := hSw; have s3 := s2.cells; go_simp; try with_reducible rfl
              try simp only [Act.put, List.setIfInBounds_toArray, List.set_cons_zero, List.set_cons_succ]
              refine take_in (i := 1) (v := ?v1E2) rfl (by kernel_rfl) (by kernel_rfl) (by kernel_rfl) (fun _ _ _ h => h) (by rfl) ?hy1E2 (by assumption) ?_
              case hy1E2 => intro WW hSw; obtain ⟨s0, s1, s2⟩ := hSw; have s3 := s2.cells; go_simp; try with_reducible rfl
              try simp only [Act.put, List.setIfInBounds_toArray, List.set_cons_zero, List.set_cons_succ]
              refine take_in (i := 2) (v := ?v2E3) rfl (by kernel_rfl) (by kernel_rfl) (by kernel_rfl) (fun _ _ _ h => h) (by rfl) ?hy2E3 (by assumption) ?_
              case hy2E3 => intro WW hSw; obtain ⟨s0, s1, s2⟩ := hSw; have s3 := s2.cells; go_simp; try with_reducible rfl
              try simp only [Act.put, List.setIfInBounds_toArray, List.set_cons_zero, List.set_cons_succ]
              refine take_in (i := 3) (v := ?v3E4) rfl (by kernel_rfl) (by kernel_rfl) (by kernel_rfl) (fun _ _ _ h => h) (by rfl) ?hy3E4 (by assumption) ?_
              case hy3E4 => intro WW hSw; obtain ⟨s0, s1, s2⟩ := hSw; have s3 := s2.cells; go_simp; try with_reducible rfl
              try simp only [Act.put, List.setIfInBounds_toArray, List.set_cons_zero, List.set_cons_succ]
              refine take_in (i := 4) (v := ?v4E5) rfl (by kernel_rfl) (by kernel_rfl) (by kernel_rfl) (fun _ _ _ h => h) (by rfl) ?hy4E5 (by assumption) ?_
              case hy4E5 => intro WW hSw; obtain ⟨s0, s1, s2⟩ := hSw; have s3 := s2.cells; go_simp; try with_reducible rfl
              try simp only [Act.put, List.setIfInBounds_toArray, List.set_cons_zero, List.set_cons_succ]
              refine take_in (i := 5) (v := ?v5E6) rfl (by kernel_rfl) (by kernel_rfl) (by kernel_rfl) (fun _ _ _ h => h) (by rfl) ?hy5E6 (by assumption) ?_
              case hy5E6 => intro WW hSw; obtain ⟨s0, s1, s2⟩ := hSw; have s3 := s2.cells; go_simp; try with_reducible rfl
              try simp only [Act.put, List.setIfInBounds_toArray, List.set_cons_zero, List.set_cons_succ]
              refine take_in (i := 6) (v := ?v6E7) rfl (by kernel_rfl) (by kernel_rfl) (by kernel_rfl) (fun _ _ _ h => h) (by rfl) ?hy6E7 (by assumption) ?_
              case hy6E7 => intro WW hSw; obtain ⟨s0, s1, s2⟩ := hSw; have s3 := s2.cells; go_simp; try with_reducible rfl
              try simp only [Act.put, List.setIfInBounds_toArray, List.set_cons_zero, List.set_cons_succ]
              refine take_in (i := 7) (v := ?v7E8) rfl (by kernel_rfl) (by kernel_rfl) (by kernel_rfl) (fun _ _ _ h => h) (by rfl) ?hy7E8 (by assumption) ?_
              case hy7E8 => intro WW hSw; obtain ⟨s0, s1, s2⟩ := hSw; have s3 := s2.cells; go_simp; try with_reducible rfl
              try simp only [Act.put, List.setIfInBounds_toArray, List.set_cons_zero, List.set_cons_succ]
              refine take_in (i := 8) (v := ?v8E9) rfl (by kernel_rfl) (by kernel_rfl) (by kernel_rfl) (fun _ _ _ h => h) (by rfl) ?hy8E9 (by assumption) ?_
              case hy8E9 => intro WW hSw; obtain ⟨s0, s1, s2⟩ := hSw; have s3 := s2.cells; go_simp; try with_reducible rfl
              try simp only [Act.put, List.setIfInBounds_toArray, List.set_cons_zero, List.set_cons_succ]
              refine name_world (F := fun X => Below W5.heap.size W5 X) (by first | exact Below.refl _ _ | exact (Below.refl _ _).drew | exact (Below.refl _ _).drew.drew) (fun Z0 HZ0 => ?_)
              clear hHeld
              have hHeld : (fun WW : World => WW.cell? ⟨bo, 3, none⟩ = some (.slice (some ⟨g, 0, none⟩) n4 k4) ∧ WW.cell? ⟨br, 1, none⟩ = some (.slice EA n2 ec) ∧ EBox WW bx #[.int .i64 xid, .string xlb, .int .i64 xf, .int .i64 xt, .slice xA xqs.length xc]) Z0 := HSX.out _ HZ0
              refine one_step (i := 9) (by kernel_rfl) rfl (fun K hK => ?_)
              have htd := HTD.out Z0 (below_then HB5.out HZ0)
              go_simp
              go_at_call 24
              go_loud (refine htd.mono ?_)
              rintro e Z1 ⟨A5, c5, rfl, ho5, hb5⟩
              clear htd
              have HZ1 : Below W5.heap.size W5 Z1 := below_then HZ0 hb5
              have ho6 := own_base ho5 (Nat.le_trans HB5.out.size HZ0.size)
              refine hK.out _ _ (HSX.out _ HZ1) (fun hHeld => ?_)
              clear hHeld hK K
              try simp only [Act.put, List.setIfInBounds_toArray, List.set_cons_zero, List.set_cons_succ]
              refine name_world (F := fun X => Below W5.heap.size W5 X ∧ X.ownsRow wr.heap.size 96 6 (.slice A5 lt c5) lt (tl.flatMap cellsQD)) ⟨HZ1, ho6⟩ (fun Z2 hF => ?_)
              obtain ⟨HZ2, ho7⟩ := hF
              have hHeld : (fun WW : World => WW.cell? ⟨bo, 3, none⟩ = some (.slice (some ⟨g, 0, none⟩) n4 k4) ∧ WW.cell? ⟨br, 1, none⟩ = some (.slice EA n2 ec) ∧ EBox WW bx #[.int .i64 xid, .string xlb, .int .i64 xf, .int .i64 xt, .slice xA xqs.length xc]) Z2 := HSX.out _ HZ2
              clear HZ1 ho5 ho6 hb5 HZ0
              refine take_in (i := 10) (v := ?v10E10) rfl (by kernel_rfl) (by kernel_rfl) (by kernel_rfl) (fun _ _ _ h => h) (by rfl) ?hy10E10 (by assumption) ?_
              case hy10E10 => intro WW hSw; obtain ⟨s0, s1, s2⟩ := hSw; have s3 := s2.cells; go_simp; try with_reducible rfl
              try simp only [Act.put, List.setIfInBounds_toArray, List.set_cons_zero, List.set_cons_succ]
              refine take_in (i := 11) (v := ?v11E11) rfl (by kernel_rfl) (by kernel_rfl) (by kernel_rfl) (fun _ _ _ h => h) (by rfl) ?hy11E11 (by assumption) ?_
              case hy11E11 => intro WW hSw; obtain ⟨s0, s1, s2⟩ := hSw; have s3 := s2.cells; go_simp; try with_reducible rfl
              try simp only [Act.put, List.setIfInBounds_toArray, List.set_cons_zero, List.set_cons_succ]
              have hbW := below_then HB5.out HZ2
              have hcl : Z2.cell? ⟨g, j * 5 + 4, none⟩ = some (.slice xA xqs.length xc) := (hbW.cell (p := ⟨g, j * 5 + 4, none⟩) HGN.out.1.2).trans HFZ.out.2
              have hfz : Z2.frozen? ⟨g, j * 5 + 4, none⟩ = false := (hbW.frozen (p := ⟨g, j * 5 + 4, none⟩) HGN.out.1.2).trans HFZ.out.1
              refine one_step (i := 12) (by kernel_rfl) rfl (fun K hK => ?_)
              go_simp
              have hsx : ∀ b, b ≠ g → (Z2.setCell ⟨g, j * 5 + 4, none⟩ (.slice A5 lt c5)).heap[b]? = Z2.heap[b]? := fun b h => heap_setCell_other _ ⟨g, j * 5 + 4, none⟩ _ _ h
              refine hK.out _ _ ⟨(World.cell?_of_block (a := ⟨bo, 3, none⟩) (hsx bo (fun e => HGN.out.2 e.symm))).trans (HSX.out _ HZ2).1, (World.cell?_of_block (a := ⟨br, 1, none⟩) (hsx br (by have h1 := HGN.out.1.1; have h2 := HBRG.out g rfl; omega))).trans (HSX.out _ HZ2).2.1, (hsx bx (by have := HBX5.out; have := HGN.out.1.2; omega)).trans (HSX.out _ HZ2).2.2⟩ (fun hHeld => ?_)
              clear hHeld hK K
              try simp only [Act.put, List.setIfInBounds_toArray, List.set_cons_zero, List.set_cons_succ]
              refine wpAnyH_done (by kernel_rfl) ?_ _
              have HST : Aside0 (ToldE wd.heap.size w ets es (.slice (some ⟨g, 0, none⟩) n4 k4) (Z2.setCell ⟨g, j * 5 + 4, none⟩ (.slice A5 lt c5)) (j + 1) (es2.set j ⟨xid, xlb, xf, xt, A5, tl, c5⟩)) := ⟨by
                have hl := HTL.out.2.1
                have ho8 := ho7
                rw [hl] at ho8
                obtain ⟨A6, c6, hv6, hr6, hf6⟩ := readsQ_own_at ho8 (by have := HTL.out.2.2; omega) (fun q hq => by
                  have hq2 : q ∈ xqs := toldL_mem (by rw [← HTL.out.1]; exact hq)
                  exact (HXQ.out.2.2.2.2.all q hq2).below hbW)
                cases hv6
                have h := HI.out.step (A3 := A5) (c3 := c5) (l := tl) HXQ.out.1 hbW (by rw [← HX.out]; exact HTL.out.1) hr6 (fun ad e => (hf6 ad e).1) HGR.out.size
                rw [← hl, ← HX.out] at h
                exact h⟩
              have HGS : Aside0 (wd.grownBy (Z2.setCell ⟨g, j * 5 + 4, none⟩ (.slice A5 lt c5)) (Value.slice (some ⟨g, 0, none⟩) n4 k4).ownBlock) := ⟨grow_trans HGR.out (grow_trans (grown_below hbW) (grow_set _ _ _ _))⟩
              clear ho7 hbW hcl hfz hsx HZ2
              go_wp2
              go_roundg (GJ - 1)
              case measure => have := HJ.out; have := HGJ.out; omega
              case rel => exact ⟨j + 1, by have := HJ.out; omega, by have := HJ.out; omega, by first | rfl | go_num, _, HST, HGS⟩
            · have hjn : j = n4 := by omega
              subst j
              obtain ⟨we, rfl⟩ : ∃ we : World, we = wr := ⟨_, rfl⟩
              have HE2 := HI
              have HGE := HGR
              clear HO HI HGR hjt hj0 hj hg
              have HBE := Aside0.mk HE2.out.below
              have hbo := HBOX.out we HGE.out
              have hoc := hbo.cells
              have ho3e : we.ownsRow w.heap.size 52 3 (.slice A3 n3 k3) n3 (ns2.flatMap cellsND) := by
                have h := HN2.out.own
                rw [← HN.out.2.2.1] at h
                exact own_keep h (fun k e => HGE.out.block k (h.lt k e).2 (fun e2 => HNE.out k e e2.symm))
              have hsn := sort_any_N we w.heap.size n3 k3 A3 ns2 (by have := HN2.out.len; have := HN.out; omega) ho3e (by have := hN; omega)
              go_upto_region 16 with (go_at_call 25; go_loud (refine hsn.mono ?_); rintro e wf ⟨rfl, ns3, hp3, hs3, ho3f, hgf⟩)
              have HGF := Aside0.mk hgf
              have HP3 := Aside0.mk (And.intro hp3 hs3)
              have HO3F := Aside0.mk ho3f
              have hbf : GBox wf bo #[.slice A1 n1 k1, .slice A2 n2 k2, .slice A3 n3 k3, .slice A4 n4 k4] := (hgf.block bo (Array.getElem?_eq_some_iff.1 hbo).1 (fun e => HNB3.out e.symm)).trans hbo
              have hocf := hbf.cells
              have ho4f : wf.ownsRow w.heap.size 55 5 (.slice A4 n4 k4) n4 (es2.flatMap cellsED) := by
                have h := HE2.out.own
                rw [← HN.out.2.2.2] at h
                exact own_keep h (fun k e => hgf.block k (h.lt k e).2 (fun e2 => HNE.out k e2.symm e))
              have hse := sort_any_E wf w.heap.size n4 k4 A4 es2 (by have := HE2.out.len; have := HN.out; omega) ho4f (by have := hN; omega)
              clear hsn hoc ho3e hp3 hs3 ho3f hgf
              go_upto_region 17 with (go_at_call 28; go_loud (refine hse.mono ?_); rintro e wg ⟨rfl, es3, hp4, hs4, ho4g, hgg⟩)
              have HGG := Aside0.mk hgg
              have HP4 := Aside0.mk (And.intro hp4 hs4)
              have HO4G := Aside0.mk ho4g
              have hbg : GBox wg bo #[.slice A1 n1 k1, .slice A2 n2 k2, .slice A3 n3 k3, .slice A4 n4 k4] := (hgg.block bo (Array.getElem?_eq_some_iff.1 hbf).1 (fun e => HNB4.out e.symm)).trans hbf
              have hocg := hbg.cells
              have HCH : Aside0 (∀ b, b < we.heap.size → (Value.slice A3 n3 k3).ownBlock ≠ some b → (Value.slice A4 n4 k4).ownBlock ≠ some b → wg.heap[b]? = we.heap[b]?) := ⟨fun b hb h3 h4 => (HGG.out.block b (Nat.lt_of_lt_of_le hb HGF.out.size) (fun e => h4 e.symm)).trans (HGF.out.block b hb (fun e => h3 e.symm))⟩
              have HCD : Aside0 (∀ b, b < wd.heap.size → (Value.slice A3 n3 k3).ownBlock ≠ some b → (Value.slice A4 n4 k4).ownBlock ≠ some b → wg.heap[b]? = wd.heap[b]?) := ⟨fun b hb h3 h4 => (HCH.out b (Nat.lt_of_lt_of_le hb HGE.out.size) h3 h4).trans (HGE.out.block b hb (fun e => h4 e.symm))⟩
              have HCC : Aside0 (∀ b, b < wc.heap.size → (Value.slice A3 n3 k3).ownBlock ≠ some b → (Value.slice A4 n4 k4).ownBlock ≠ some b → wg.heap[b]? = wc.heap[b]?) := ⟨fun b hb h3 h4 => (HCD.out b (Nat.lt_of_lt_of_le hb HGD.out.size) h3 h4).trans (HGD.out.block b hb (fun e => h3 e.symm))⟩
              have HLOW : Aside0 (∀ b, b < B8 → (Value.slice A3 n3 k3).ownBlock ≠ some b ∧ (Value.slice A4 n4 k4).ownBlock ≠ some b) := ⟨fun b hb => ⟨fun e => by have := (HO3.out.lt b e).1; omega, fun e => by have := (HO4.out.lt b e).1; omega⟩⟩
              have hzg : GBox wg bz #[.slice none 0 0, .slice none 0 0, .slice none 0 0, .slice none 0 0] := by
                have hl : bz < B8 := Nat.lt_of_lt_of_le HBZ3.out HB8.out.1
                exact (HCC.out bz (by have := HB8.out.2; omega) (HLOW.out bz hl).1 (HLOW.out bz hl).2).trans ((HK3.out bz HBZ3.out).trans HZ3.out)
              have hzf := hzg.free
              have hzc := hzg.cells
              have HZG := Aside0.mk hzg
              clear hse hocf ho4f hp4 hs4 ho4g hgg hbo hbf hbg hzg
              go_wp2
              have HXB : w.heap.size ≤ bz := by have := HBZ.out; omega
              have hbwf := below_own HBE.out HGF.out (fun k e => (HO3F.out.lt k e).1)
              have hbwg := below_own hbwf HGG.out (fun k e => (HO4G.out.lt k e).1)
              have hbwz := below_set (below_set (below_set (below_set hbwg (p := ⟨bz, 0, none⟩) HXB (.slice A1 n1 k1)) (p := ⟨bz, 1, none⟩) HXB (.slice A2 n2 k2)) (p := ⟨bz, 2, none⟩) HXB (.slice A3 n3 k3)) (p := ⟨bz, 3, none⟩) HXB (.slice A4 n4 k4)
              refine bodyPost_ret (results_raw rfl rfl rfl ((((HZG.out.put 0 _).put 1 _).put 2 _).put 3 _) rfl) rfl ?_
              refine ⟨hbwz, .inr ⟨?_, ⟨A1, t1, k1, A2, t2, k2, A3, ns3, k3, A4, es3, k4⟩, ?_, ?_⟩⟩
              · simp only
                rw [← HCR.out]
              · have e1 : t1.length = n1 := by have := congrArg List.length HC1.out; simp only [List.length_map] at this; have := HN.out; omega
                have e2 : t2.length = n2 := by have := congrArg List.length HC2.out; simp only [List.length_map] at this; have := HN.out; omega
                have e3 : ns3.length = n3 := by have := HP3.out.1.length_eq; have := HN2.out.len; have := HN.out; omega
                have e4 : es3.length = n4 := by have := HP4.out.1.length_eq; have := HE2.out.len; have := HN.out; omega
                simp only [GD.val]
                rw [e1, e2, e3, e4]
                rfl
              · obtain ⟨wz, hwz⟩ : ∃ wz, wz = ((((wg.setCell ⟨bz, 0, none⟩ (.slice A1 n1 k1)).setCell ⟨bz, 1, none⟩ (.slice A2 n2 k2)).setCell ⟨bz, 2, none⟩ (.slice A3 n3 k3)).setCell ⟨bz, 3, none⟩ (.slice A4 n4 k4)) := ⟨_, rfl⟩
                have hsx : ∀ k, k ≠ bz → wz.heap[k]? = wg.heap[k]? := fun k h => by
                  rw [hwz, heap_setCell_other _ ⟨bz, 3, none⟩ _ _ h, heap_setCell_other _ ⟨bz, 2, none⟩ _ _ h, heap_setCell_other _ ⟨bz, 1, none⟩ _ _ h, heap_setCell_other _ ⟨bz, 0, none⟩ _ _ h]
                rw [← hwz] at hbwz ⊢
                have hbzc : bz < wc.heap.size := by have := HBZ3.out; have := HB8.out; omega
                have hz1 : ZT B8 wz A1 t1 := (HZT1.out.keep (fun k hk => HCC.out k (by have := HB8.out.2; omega) (HLOW.out k hk).1 (HLOW.out k hk).2)).keep_box HZG.out (slices4 _ _ _ _ _ _ _ _ _ _ _ _) (fun k _ h => hsx k h)
                have hz2 : ZT B8 wz A2 t2 := (HZT2.out.keep (fun k hk => HCC.out k (by have := HB8.out.2; omega) (HLOW.out k hk).1 (HLOW.out k hk).2)).keep_box HZG.out (slices4 _ _ _ _ _ _ _ _ _ _ _ _) (fun k _ h => hsx k h)
                have hb3 : ∀ k, (Value.slice A3 n3 k3).ownBlock = some k → k ≠ bz := fun k e e2 => by have := (HO3.out.lt k e).1; have := HBZ3.out; have := HB8.out; omega
                have hb4 : ∀ k, (Value.slice A4 n4 k4).ownBlock = some k → k ≠ bz := fun k e e2 => by have := (HO4.out.lt k e).1; have := HBZ3.out; have := HB8.out; omega
                have ho3z : wz.ownsRow w.heap.size 52 3 (.slice A3 n3 k3) n3 (ns3.flatMap cellsND) := own_keep HO3F.out (fun k e => (hsx k (hb3 k e)).trans (HGG.out.block k (HO3F.out.lt k e).2 (fun e2 => HNE.out k e e2.symm)))
                have ho4z : wz.ownsRow w.heap.size 55 5 (.slice A4 n4 k4) n4 (es3.flatMap cellsED) := own_keep HO4G.out (fun k e => hsx k (hb4 k e))
                have e3 : ns3.length = n3 := by have := HP3.out.1.length_eq; have := HN2.out.len; have := HN.out; omega
                have e4 : es3.length = n4 := by have := HP4.out.1.length_eq; have := HE2.out.len; have := HN.out; omega
                have hw3 : ∀ k, (Value.slice A3 n3 k3).ownBlock = some k → w.heap.size ≤ k ∧ k < wc.heap.size := fun k e => ⟨(HO3F.out.lt k e).1, (HO3.out.lt k e).2⟩
                have hw4 : ∀ k, (Value.slice A4 n4 k4).ownBlock = some k → w.heap.size ≤ k ∧ k < wc.heap.size := fun k e => ⟨(HO4G.out.lt k e).1, (HO4.out.lt k e).2⟩
                have hgn : ∀ x ∈ ns3, goodND wz x := fun x hx => by
                  have hx2 := HP3.out.1.subset hx
                  have hg := HN2.out.good x hx2
                  refine ⟨hg.1, props_keep hg.2 (HN2.out.path x hx2) hbwz (fun ad e hne => ?_)⟩
                  have hzn := HN2.out.zone x hx2 ad e hne
                  have hof := HN2.out.off x hx2 ad e hne
                  have hlt := blockQ hg.2 ad e hne
                  refine (hsx _ (fun e2 => ?_)).trans (HCD.out _ hlt hof (fun e2 => ?_))
                  · omega
                  · have := hw4 _ e2
                    omega
                have hge : ∀ x ∈ es3, goodED wz x := fun x hx => by
                  have hx2 := HP4.out.1.subset hx
                  have hg := HE2.out.good x hx2
                  refine ⟨hg.1, hg.2.1, props_keep hg.2.2 (HE2.out.path x hx2) hbwz (fun ad e hne => ?_)⟩
                  have hzn := HE2.out.zone x hx2 ad e hne
                  have hof := HE2.out.off x hx2 ad e hne
                  have hlt := blockQ hg.2.2 ad e hne
                  have hcd := HGD.out.size
                  refine (hsx _ (fun e2 => ?_)).trans (HCH.out _ hlt (fun e2 => ?_) hof)
                  · omega
                  · have := hw3 _ e2
                    omega
                have ho3q := ho3z
                have ho4q := ho4z
                rw [← e3] at ho3q
                rw [← e4] at ho4q
                obtain ⟨A3', k3', hv3, hr3⟩ := readsN_own ho3q (by have := hN; omega) hgn
                obtain ⟨A4', k4', hv4, hr4⟩ := readsE_own ho4q (by have := hN; omega) hge
                cases hv3
                cases hv4
                refine ⟨⟨hz1.reads, hz2.reads, hr3, hr4⟩, HC1.out, HC2.out, ?_, ?_, HP3.out.2, HP4.out.2, ?_, ?_⟩
                · have hd := HN2.out.done
                  rw [HN.out.2.2.1, List.take_length, List.drop_length, List.map_nil, List.append_nil] at hd
                  simp only
                  rw [← hd]
                  exact HP3.out.1.map _
                · have hd := HE2.out.done
                  rw [HN.out.2.2.2, List.take_length, List.drop_length, List.map_nil, List.append_nil] at hd
                  simp only
                  rw [← hd]
                  exact HP4.out.1.map _
                · intro e
                  simp only at e
                  subst e
                  rcases ho3z.2 with ⟨h1, _⟩ | ⟨_, _, _, h1, _⟩
                  · exact (Value.slice.inj h1).2.2
                  · cases h1
                · intro e
                  simp only at e
                  subst e
                  rcases ho4z.2 with ⟨h1, _⟩ | ⟨_, _, _, h1, _⟩
                  · exact (Value.slice.inj h1).2.2
                  · cases h1
  · have hc3b : (c3 == 0) = false := by simp [hc3]
    have hzf := HZ3.out.free
    have hzc := HZ3.out.cells
    have HXB : Aside0 (w.heap.size ≤ bz) := ⟨by have := HBZ.out; omega⟩
    go_wp2
    refine bodyPost_ret (results_raw rfl rfl rfl ((((HZ3.out.put 0 _).put 1 _).put 2 _).put 3 _) rfl) rfl ?_
    refine ⟨below_set (below_set (below_set (below_set HBW3.out (p := ⟨bz, 0, none⟩) HXB.out _) (p := ⟨bz, 1, none⟩) HXB.out _) (p := ⟨bz, 2, none⟩) HXB.out _) (p := ⟨bz, 3, none⟩) HXB.out _, .inl ⟨?_, ?_⟩⟩
    · simp only
      rw [← HCR.out]
      exact hc3
    · simp only
      rw [← HCR.out]
      rfl
end Go.Proofs.YtffifhinhemkdaaDoor
