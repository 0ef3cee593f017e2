/- The walk of RawgraphFirst. -/
import Derived.Test.YtffifhinhemkdaaRgPl
import Derived.Test.YtffifhinhemkdaaRgOpen
import Derived.Test.YtffifhinhemkdaaRgChk
import Derived.Test.YtffifhinhemkdaaRgHdA
import Derived.Test.YtffifhinhemkdaaRgAppR
set_option linter.unusedVariables false
set_option linter.unusedSimpArgs false
namespace Go.Proofs.Ytffifhinhemkdaa
open Go.RowKit Go.Maps

/-- Check of a graph that can be read. -/
theorem check_graph (g : GD) (w : World) (hg : ReadsG w g) (hN : g.nts.length ≤ 4000000000000 ∧ g.ets.length ≤ 4000000000000) :
    Calls Try.prog 7 #[g.val] w fun e w' => e = .returned (.tuple #[.agg #[.int .i64 (checkR g.nts g.ets g.ns g.es).1, .int .i64 ((checkR g.nts g.ets g.ns g.es).2.1 : Int)], .int .i64 (checkR g.nts g.ets g.ns g.es).2.2]) ∧ Below w.heap.size w w' :=
  check_any g.nts g.ets g.ns g.es g.NA g.EA g.VA g.UA g.nc g.ec g.vc g.uc w hg.nts hg.ets hg.ns hg.es (by omega) (by omega)
set_option maxRecDepth 100000 in
set_option maxHeartbeats 12800000 in
theorem first_walk (g : GD) (n : ND) (e : ED) (w : World) (hg : ReadsG w g) (hn : goodND w n) (he : goodED w e) (hz : (g.VA = none → g.vc = 0) ∧ (g.UA = none → g.uc = 0)) (hN : g.nts.length ≤ 4000000000000 ∧ g.ets.length ≤ 4000000000000 ∧ g.ns.length ≤ 2932031007401 ∧ g.es.length ≤ 2199023255551) :
    Calls Try.prog 3 #[g.val, .agg #[.int .i64 n.id, .string n.lb, .slice n.A n.qs.length n.c], .agg #[.int .i64 e.id, .string e.lb, .int .i64 e.f, .int .i64 e.t, .slice e.A e.qs.length e.c]] w fun e w' => e = .returned (.bool true) ∧ Below w.heap.size w w' := by
  have HCK : Aside0 (∀ W, Below w.heap.size w W → Calls Try.prog 7 #[g.val] W fun e w' => e = .returned (.tuple #[.agg #[.int .i64 (checkR g.nts g.ets g.ns g.es).1, .int .i64 ((checkR g.nts g.ets g.ns g.es).2.1 : Int)], .int .i64 (checkR g.nts g.ets g.ns g.es).2.2]) ∧ Below W.heap.size W w') := ⟨fun W h => check_graph g W (hg.below h) ⟨hN.1, hN.2.1⟩⟩
  have HPE := Aside0.mk (check_edge g.nts g.ets g.ns g.es e)
  have HPN := Aside0.mk (check_node g.nts g.ets g.ns g.es n)
  have HG := Aside0.mk hg
  have HVA := Aside0.mk hz.1
  have HUA := Aside0.mk hz.2
  clear hz
  have HH : Aside0 (∀ W, Calls Try.prog 6 #[] W fun e w' => e = .returned (.bool true) ∧ Below W.heap.size W w') := ⟨fun W => head_any W⟩
  obtain ⟨NA, nts, nc, EA, ets, ec, VA, ns, vc, UA, es, uc⟩ := g
  obtain ⟨eid, elb, ef, et, eA, eqs, ecc⟩ := e
  obtain ⟨nid, nlb, nA, nqs, ncc⟩ := n
  simp only [GD.val] at HCK ⊢
  simp only at HPE HPN hN hn he HVA HUA
  obtain ⟨CR, hCR⟩ : ∃ CR, CR = checkR nts ets ns es := ⟨_, rfl⟩
  rw [← hCR] at HCK HPE HPN
  obtain ⟨c1, c2, c3⟩ := CR
  simp only at HCK
  obtain ⟨n1, hn1⟩ : ∃ n1, n1 = nts.length := ⟨_, rfl⟩
  obtain ⟨n2, hn2⟩ : ∃ n2, n2 = ets.length := ⟨_, rfl⟩
  obtain ⟨n3, hn3⟩ : ∃ n3, n3 = ns.length := ⟨_, rfl⟩
  obtain ⟨n4, hn4⟩ : ∃ n4, n4 = es.length := ⟨_, rfl⟩
  obtain ⟨q1, hq1⟩ : ∃ q1, q1 = nqs.length := ⟨_, rfl⟩
  obtain ⟨q2, hq2⟩ : ∃ q2, q2 = eqs.length := ⟨_, rfl⟩
  rw [← hn1, ← hn2, ← hn3, ← hn4] at HCK ⊢
  rw [← hq1, ← hq2]
  have HN := Aside0.mk (And.intro hn1 (And.intro hn2 (And.intro hn3 (And.intro hn4 (And.intro hq1 hq2)))))
  have HNE := Aside0.mk (And.intro hn he)
  rw [← hn1, ← hn2, ← hn3, ← hn4] at hN
  clear hn1 hn2 hn3 hn4 hq1 hq2 hCR hg hn he
  go_enter Try.func3, Try.ntmps3
  go_upto_region 1 with (fail)
  obtain ⟨Wa, hWa⟩ : ∃ Wa, Wa = w.alloc (.cells #[.slice NA n1 nc, .slice EA n2 ec, .slice VA n3 vc, .slice UA n4 uc] 26) := ⟨_, rfl⟩
  obtain ⟨Wb, hWb⟩ : ∃ Wb, Wb = Wa.alloc (.cells #[.int .i64 nid, .string nlb, .slice nA q1 ncc] 29) := ⟨_, rfl⟩
  obtain ⟨W1, hW1⟩ : ∃ W1, W1 = Wb.alloc (.cells #[.int .i64 eid, .string elb, .int .i64 ef, .int .i64 et, .slice eA q2 ecc] 31) := ⟨_, rfl⟩
  have sa : Wa.heap.size = w.heap.size + 1 := by rw [hWa]; simp
  have sb : Wb.heap.size = w.heap.size + 1 + 1 := by rw [hWb]; simp; omega
  have s1 : W1.heap.size = w.heap.size + 1 + 1 + 1 := by rw [hW1]; simp; omega
  obtain ⟨br, hbr⟩ : ∃ br, br = w.heap.size := ⟨_, rfl⟩
  obtain ⟨bn, hbn⟩ : ∃ bn, bn = w.heap.size + 1 := ⟨_, rfl⟩
  obtain ⟨be, hbe⟩ : ∃ be, be = w.heap.size + 1 + 1 := ⟨_, rfl⟩
  have HR1 : Aside0 (GBox W1 br #[.slice NA n1 nc, .slice EA n2 ec, .slice VA n3 vc, .slice UA n4 uc]) := ⟨by
    unfold GBox
    rw [hbr, hW1, heap_alloc_old _ _ (by omega), hWb, heap_alloc_old _ _ (by omega), hWa]
    exact heap_alloc_new w _⟩
  have HN1 : Aside0 (NBox W1 bn #[.int .i64 nid, .string nlb, .slice nA q1 ncc]) := ⟨by
    unfold NBox
    rw [hbn, hW1, heap_alloc_old _ _ (by omega), hWb, ← sa]
    exact heap_alloc_new Wa _⟩
  have HE1 : Aside0 (EBox W1 be #[.int .i64 eid, .string elb, .int .i64 ef, .int .i64 et, .slice eA q2 ecc]) := ⟨by
    unfold EBox
    rw [hbe, hW1, ← sb]
    exact heap_alloc_new Wb _⟩
  have HB1 : Aside0 (Below w.heap.size w W1) := ⟨by rw [hW1, hWb, hWa]; exact below_more (below_more (below_more (Below.refl _ _) _) _) _⟩
  rw [← hWa, ← hWb, ← hW1, ← hbe, ← hbn, ← hbr]
  have HBL : Aside0 (w.heap.size ≤ br ∧ w.heap.size ≤ bn ∧ w.heap.size ≤ be ∧ br < W1.heap.size ∧ bn < W1.heap.size ∧ be < W1.heap.size) := ⟨by omega⟩
  clear hWa hWb hW1 sa sb s1 hbr hbn hbe
  have hhd := HH.out W1
  go_upto_region 2 with (go_at_call 6; go_loud (refine hhd.mono ?_))
  first
    | (intro e W2 he hb2; subst he)
    | rintro e W2 ⟨rfl, hb2⟩
  have HR2 : Aside0 (GBox W2 br #[.slice NA n1 nc, .slice EA n2 ec, .slice VA n3 vc, .slice UA n4 uc]) := ⟨(hb2.block br HBL.out.2.2.2.1).trans HR1.out⟩
  have HN2 := Aside0.mk (HN1.out.below hb2)
  have HE2 := Aside0.mk (HE1.out.below hb2)
  have HB2 := Aside0.mk (below_then HB1.out hb2)
  clear hhd hb2 HR1 HN1 HE1
  have hck := HCK.out W2 HB2.out
  have hrc := HR2.out.cells
  go_upto_region 3 with (go_at_call 7; go_loud (refine hck.mono ?_))
  first
    | (intro e W3 he hb3; subst he)
    | rintro e W3 ⟨rfl, hb3⟩
  have HR3 : Aside0 (GBox W3 br #[.slice NA n1 nc, .slice EA n2 ec, .slice VA n3 vc, .slice UA n4 uc]) := ⟨(hb3.block br (Array.getElem?_eq_some_iff.1 HR2.out).1).trans HR2.out⟩
  have HN3 := Aside0.mk (HN2.out.below hb3)
  have HE3 := Aside0.mk (HE2.out.below hb3)
  have HB3 := Aside0.mk (below_then HB2.out hb3)
  clear hck hb3 hrc HR2 HN2 HE2
  have hrc : ∀ Wz, (W3.alloc Wz).cell? ⟨br, 0, none⟩ = some (.slice NA n1 nc) ∧ (W3.alloc Wz).cell? ⟨br, 1, none⟩ = some (.slice EA n2 ec) ∧ (W3.alloc Wz).cell? ⟨br, 2, none⟩ = some (.slice VA n3 vc) ∧ (W3.alloc Wz).cell? ⟨br, 3, none⟩ = some (.slice UA n4 uc) := fun Wz => by
    have h : GBox (W3.alloc Wz) br #[.slice NA n1 nc, .slice EA n2 ec, .slice VA n3 vc, .slice UA n4 uc] := (heap_alloc_old W3 _ (Array.getElem?_eq_some_iff.1 HR3.out).1).trans HR3.out
    exact ⟨h.cells 0, h.cells 1, h.cells 2, h.cells 3⟩
  have hrc0 := fun Wz => (hrc Wz).1
  have hrc1 := fun Wz => (hrc Wz).2.1
  have hrc2 := fun Wz => (hrc Wz).2.2.1
  have hrc3 := fun Wz => (hrc Wz).2.2.2
  clear hrc
  go_upto_region 4 with (fail)
  obtain ⟨W4, hW4⟩ : ∃ W4, W4 = W3.alloc (.cells #[.int .i64 c1, .int .i64 (c2 : Int)] 35) := ⟨_, rfl⟩
  obtain ⟨W5, hW5⟩ : ∃ W5, W5 = W4.alloc (.cells #[.slice NA n1 nc, .slice EA n2 ec, .slice VA n3 vc, .slice UA n4 uc] 26) := ⟨_, rfl⟩
  have s4 : W4.heap.size = W3.heap.size + 1 := by rw [hW4]; simp
  have s5 : W5.heap.size = W3.heap.size + 1 + 1 := by rw [hW5]; simp; omega
  obtain ⟨bp, hbp⟩ : ∃ bp, bp = W3.heap.size := ⟨_, rfl⟩
  obtain ⟨bm, hbm⟩ : ∃ bm, bm = W3.heap.size + 1 := ⟨_, rfl⟩
  have HP5 : Aside0 (PBox W5 bp #[.int .i64 c1, .int .i64 (c2 : Int)]) := ⟨by
    unfold PBox
    rw [hbp, hW5, heap_alloc_old _ _ (by omega), hW4]
    exact heap_alloc_new W3 _⟩
  have HM5 : Aside0 (GBox W5 bm #[.slice NA n1 nc, .slice EA n2 ec, .slice VA n3 vc, .slice UA n4 uc]) := ⟨by
    unfold GBox
    rw [hbm, hW5, ← s4]
    exact heap_alloc_new W4 _⟩
  have hb35 : Below W3.heap.size W3 W5 := by rw [hW5, hW4]; exact below_more (below_more (Below.refl _ _) _) _
  have HR5 : Aside0 (GBox W5 br #[.slice NA n1 nc, .slice EA n2 ec, .slice VA n3 vc, .slice UA n4 uc]) := ⟨(hb35.block br (Array.getElem?_eq_some_iff.1 HR3.out).1).trans HR3.out⟩
  have HN5 := Aside0.mk (HN3.out.below hb35)
  have HE5 := Aside0.mk (HE3.out.below hb35)
  have HB5 := Aside0.mk (below_then HB3.out hb35)
  rw [← hW4, ← hW5, ← hbm, ← hbp]
  have HX5 : Aside0 (bp < W5.heap.size ∧ bm < W5.heap.size ∧ bp ≠ bm ∧ w.heap.size ≤ bp ∧ w.heap.size ≤ bm ∧ br < bp ∧ bn < bp ∧ be < bp ∧ bp < bm) := ⟨by
    have h1 := HB3.out.size
    have h3 := (Array.getElem?_eq_some_iff.1 HN3.out).1
    have h4 := (Array.getElem?_eq_some_iff.1 HE3.out).1
    have h2 := (Array.getElem?_eq_some_iff.1 HR3.out).1
    omega⟩
  clear hW4 hW5 s4 s5 hbp hbm hb35 hrc0 hrc1 hrc2 hrc3 HR3 HN3 HE3
  have HEC : Aside0 ((#[.int .i64 eid, .string elb, .int .i64 ef, .int .i64 et, .slice eA q2 ecc] : Array Value) = (cellsED (⟨eid, elb, ef, et, eA, eqs, ecc⟩ : ED)).toArray) := ⟨by rw [HN.out.2.2.2.2.2]; rfl⟩
  have HREADE : Aside0 (∀ X, Below W5.heap.size W5 X → ReadsE X UA es) := ⟨fun X h => HG.out.es.below (below_then HB5.out h)⟩
  have HGE : Aside0 ((∀ x ∈ es, goodED w x) ∧ goodED w (⟨eid, elb, ef, et, eA, eqs, ecc⟩ : ED)) := ⟨ReadsG.all_E HG.out.es, HNE.out.2⟩
  have HSX : Aside0 (∀ X : World, (∀ k, k < W5.heap.size → k ≠ bm → X.heap[k]? = W5.heap[k]?) → (fun WW : World => WW.cell? ⟨br, 3, none⟩ = some (.slice UA n4 uc) ∧ EBox WW be #[.int .i64 eid, .string elb, .int .i64 ef, .int .i64 et, .slice eA q2 ecc]) X) := ⟨fun X h => ⟨(World.cell?_of_block (a := ⟨br, 3, none⟩) (h br (by have := HX5.out; omega) (by have := HX5.out; omega))).trans (HR5.out.cells 3), (h be (by have := HX5.out; omega) (by have := HX5.out; omega)).trans HE5.out⟩⟩
  go_cut [] from 9999 (fun X => Below w.heap.size w X ∧ W5.heap.size ≤ X.heap.size ∧ (∀ k, k < W5.heap.size → k ≠ bm → X.heap[k]? = W5.heap[k]?) ∧ ∃ A8 c8, GBox X bm #[.slice NA n1 nc, .slice EA n2 ec, .slice VA n3 vc, .slice A8 (n4 + 1) c8] ∧ ReadsE X A8 (es ++ [(⟨eid, elb, ef, et, eA, eqs, ecc⟩ : ED)]))
  case first =>
    refine wp_region_held_drew (S := (fun WW : World => WW.cell? ⟨br, 3, none⟩ = some (.slice UA n4 uc) ∧ EBox WW be #[.int .i64 eid, .string elb, .int .i64 ef, .int .i64 et, .slice eA q2 ecc])) (by kernel_rfl) ?_ (fun hHeld => ?_)
    · exact HSX.out _ (fun k h1 h2 => rfl)
    refine take_in (i := 1) (v := ?v1az1) rfl (by kernel_rfl) (by kernel_rfl) (by kernel_rfl) (fun _ _ _ h => h) (by rfl) ?hy1az1 (by assumption) ?_
    case hy1az1 => intro WW hSw; (try dsimp only at hSw); go_simp; try with_reducible rfl
    try simp only [Act.put, List.setIfInBounds_toArray, List.set_cons_zero, List.set_cons_succ]
    refine take_in (i := 2) (v := ?v2az2) rfl (by kernel_rfl) (by kernel_rfl) (by kernel_rfl) (fun _ _ _ h => h) (by rfl) ?hy2az2 (by assumption) ?_
    case hy2az2 => intro WW hSw; (try dsimp only at hSw); go_simp; try with_reducible rfl
    try simp only [Act.put, List.setIfInBounds_toArray, List.set_cons_zero, List.set_cons_succ]
    refine take_in (i := 4) (v := ?v4az3) rfl (by kernel_rfl) (by kernel_rfl) (by kernel_rfl) (fun _ _ _ h => h) (by rfl) ?hy4az3 (by assumption) ?_
    case hy4az3 => intro WW hSw; have h1 := hSw.2.cells; go_simp; try with_reducible rfl
    try simp only [Act.put, List.setIfInBounds_toArray, List.set_cons_zero, List.set_cons_succ]
    refine name_world (F := fun X => Below W5.heap.size W5 X) (by first | exact Below.refl _ _ | exact (Below.refl _ _).drew | exact (Below.refl _ _).drew.drew) (fun aY0 HBaY0 => ?_)
    clear hHeld
    have hHeld : (fun WW : World => WW.cell? ⟨br, 3, none⟩ = some (.slice UA n4 uc) ∧ EBox WW be #[.int .i64 eid, .string elb, .int .i64 ef, .int .i64 et, .slice eA q2 ecc]) aY0 := (HSX.out _ (fun k h1 h2 => HBaY0.block k h1))
    refine two_step (i := 0) (j := 5) (by kernel_rfl) rfl rfl (fun K hK => ?_) (fun K hK => ?_)
    · go_simp
      refine hK.out _ _ (HSX.out _ (fun k h1 h2 => (HBaY0.alloc HBaY0.size _).block k h1)) (fun hHeld => ?_)
      clear hHeld hK K
      try simp only [Act.put, List.setIfInBounds_toArray, List.set_cons_zero, List.set_cons_succ]
      refine name_world (F := fun X => Below W5.heap.size W5 X ∧ X.ownsRow W5.heap.size 31 5 (.slice (some ⟨aY0.heap.size, 0, none⟩) 0 0) 0 []) ⟨HBaY0.alloc HBaY0.size _, own_empty_E aY0 _ HBaY0.size⟩ (fun aY1 hF => ?_)
      obtain ⟨HBaY1, hEaY1⟩ := hF
      have hHeld : (fun WW : World => WW.cell? ⟨br, 3, none⟩ = some (.slice UA n4 uc) ∧ EBox WW be #[.int .i64 eid, .string elb, .int .i64 ef, .int .i64 et, .slice eA q2 ecc]) aY1 := (HSX.out _ (fun k h1 h2 => HBaY1.block k h1))
      obtain ⟨gE, hgaY1⟩ : ∃ g, g = aY0.heap.size := ⟨_, rfl⟩
      simp only [← hgaY1] at hEaY1 ⊢
      clear hgaY1
      clear HBaY0
      refine two_step (i := 3) (j := 5) (by kernel_rfl) rfl rfl (fun K hK => ?_) (fun K hK => ?_)
      · refine of_if (by rfl) ?_
        refine app_all_E (.tmp 20) (.tmp 22) rfl W5.heap.size _ rfl hEaY1 UA es n4 uc HN.out.2.2.2.1 rfl HUA.out (HREADE.out aY1 HBaY1) (by have := hN; omega) HBaY1.size ?_
        intro v2 Z hT0 hb0 hg0
        have HBZ : Below W5.heap.size W5 Z := HBaY1.trans hb0
        refine hK.out _ _ (HSX.out _ (fun k h1 h2 => HBZ.block k h1)) (fun hHeld => ?_)
        clear hHeld hK K
        try simp only [Act.put, List.setIfInBounds_toArray, List.set_cons_zero, List.set_cons_succ]
        refine name_world (F := fun X => Below W5.heap.size W5 X ∧ X.ownsRow W5.heap.size 31 5 v2 n4 (es.flatMap cellsED)) ⟨HBZ, hT0⟩ (fun aY2 hF => ?_)
        obtain ⟨HBaY2, hTaY2⟩ := hF
        have hHeld : (fun WW : World => WW.cell? ⟨br, 3, none⟩ = some (.slice UA n4 uc) ∧ EBox WW be #[.int .i64 eid, .string elb, .int .i64 ef, .int .i64 et, .slice eA q2 ecc]) aY2 := (HSX.out _ (fun k h1 h2 => HBaY2.block k h1))
        clear HBaY1
        clear hEaY1
        clear hT0 hb0 hg0 HBZ
        refine one_step (i := 5) (by kernel_rfl) rfl (fun K hK => ?_)
        go_simp
        refine hK.out _ _ (HSX.out _ (fun k h1 h2 => (HBaY2.alloc HBaY2.size _).block k h1)) (fun hHeld => ?_)
        clear hHeld hK K
        try simp only [Act.put, List.setIfInBounds_toArray, List.set_cons_zero, List.set_cons_succ]
        refine name_world (F := fun X => Below W5.heap.size W5 X ∧ EBox X aY2.heap.size #[.int .i64 eid, .string elb, .int .i64 ef, .int .i64 et, .slice eA q2 ecc] ∧ X.ownsRow W5.heap.size 31 5 v2 n4 (es.flatMap cellsED)) ⟨HBaY2.alloc HBaY2.size _, heap_alloc_new aY2 _, hTaY2.alloc _⟩ (fun aY3 hF => ?_)
        obtain ⟨HBaY3, h7aY3, hTaY3⟩ := hF
        have hHeld : (fun WW : World => WW.cell? ⟨br, 3, none⟩ = some (.slice UA n4 uc) ∧ EBox WW be #[.int .i64 eid, .string elb, .int .i64 ef, .int .i64 et, .slice eA q2 ecc]) aY3 := (HSX.out _ (fun k h1 h2 => HBaY3.block k h1))
        obtain ⟨g7, hgaY3⟩ : ∃ g, g = aY2.heap.size := ⟨_, rfl⟩
        simp only [← hgaY3] at h7aY3 ⊢
        clear hgaY3
        clear HBaY2
        clear hTaY2
        refine one_step (i := 6) (by kernel_rfl) rfl (fun K hK => ?_)
        refine of_if (by rfl) ?_
        refine app_one_E (.tmp 23) (.tmp 25) rfl W5.heap.size _ _ _ rfl hTaY3 g7 (⟨eid, elb, ef, et, eA, eqs, ecc⟩ : ED) rfl (by rw [← HEC.out]; exact h7aY3) (by have := hN; omega) HBaY3.size ?_
        intro v8 Z8 hT8 hb8 hg8
        have HB8 : Below W5.heap.size W5 Z8 := HBaY3.trans hb8
        obtain ⟨A8, c8, rfl, hr8⟩ := read_more_E HN.out.2.2.2.1 hT8 (by have := hN; omega) (fun x hx => (HGE.out.1 x hx).below (below_then HB5.out HB8)) (HGE.out.2.below (below_then HB5.out HB8))
        clear hr8 hb8 hg8
        refine hK.out _ _ (HSX.out _ (fun k h1 h2 => HB8.block k h1)) (fun hHeld => ?_)
        clear hHeld hK K
        try simp only [Act.put, List.setIfInBounds_toArray, List.set_cons_zero, List.set_cons_succ]
        refine name_world (F := fun X => Below W5.heap.size W5 X ∧ X.ownsRow W5.heap.size 31 5 (.slice A8 (n4 + 1) c8) (n4 + 1) (es.flatMap cellsED ++ cellsED (⟨eid, elb, ef, et, eA, eqs, ecc⟩ : ED))) ⟨HB8, hT8⟩ (fun aX8 hF => ?_)
        obtain ⟨HBaX8, hTaX8⟩ := hF
        have hHeld : (fun WW : World => WW.cell? ⟨br, 3, none⟩ = some (.slice UA n4 uc) ∧ EBox WW be #[.int .i64 eid, .string elb, .int .i64 ef, .int .i64 et, .slice eA q2 ecc]) aX8 := (HSX.out _ (fun k h1 h2 => HBaX8.block k h1))
        clear HB8 hT8 HBaY3 hTaY3 h7aY3
        refine take_in (i := 7) (v := ?v7az4) rfl (by kernel_rfl) (by kernel_rfl) (by kernel_rfl) (fun _ _ _ h => h) (by rfl) ?hy7az4 (by assumption) ?_
        case hy7az4 => intro WW hSw; (try dsimp only at hSw); go_simp; try with_reducible rfl
        try simp only [Act.put, List.setIfInBounds_toArray, List.set_cons_zero, List.set_cons_succ]
        have hfz : aX8.frozen? ⟨bm, 3, none⟩ = false := GBox.free (W := aX8) (b := bm) ((HBaX8.block _ (by have := HX5.out; omega)).trans HM5.out) 3
        have hcl := GBox.cells (W := aX8) (b := bm) ((HBaX8.block _ (by have := HX5.out; omega)).trans HM5.out) 3
        refine one_step (i := 8) (by kernel_rfl) rfl (fun K hK => ?_)
        go_simp
        refine hK.out _ _ (HSX.out _ (fun k h1 h2 => (heap_setCell_other _ _ _ _ h2).trans (HBaX8.block k h1))) (fun hHeld => ?_)
        clear hHeld hK K
        try simp only [Act.put, List.setIfInBounds_toArray, List.set_cons_zero, List.set_cons_succ]
        refine wpAnyH_done (by kernel_rfl) ?_ _
        go_wp2
        go_meet
        case rel =>
          have hbY : Below W5.heap.size W5 _ := HBaX8
          have hdx := HX5.out
          have hbw := below_set (below_then HB5.out HBaX8) (p := ⟨bm, 3, none⟩) (by show w.heap.size ≤ bm; omega) (.slice A8 (n4 + 1) c8)
          obtain ⟨A9, c9, he9, hr9⟩ := read_more_E HN.out.2.2.2.1 (own_set hTaX8 ⟨bm, 3, none⟩ (.slice A8 (n4 + 1) c8) (by show bm < W5.heap.size; omega)) (by have := hN; omega) (fun x hx => (HGE.out.1 x hx).below hbw) (HGE.out.2.below hbw)
          cases he9
          exact ⟨hbw, by have := HBaX8.size; simp; omega, fun k h1 h2 => (heap_setCell_other _ _ _ _ h2).trans (HBaX8.block k h1), A8, c8, GBox.put (W := aX8) (b := bm) ((HBaX8.block _ (by omega)).trans HM5.out) 3 _, hr9⟩
      · go_simp
        refine hK.out _ _ (HSX.out _ (fun k h1 h2 => (HBaY1.alloc HBaY1.size _).block k h1)) (fun hHeld => ?_)
        clear hHeld hK K
        try simp only [Act.put, List.setIfInBounds_toArray, List.set_cons_zero, List.set_cons_succ]
        refine name_world (F := fun X => Below W5.heap.size W5 X ∧ EBox X aY1.heap.size #[.int .i64 eid, .string elb, .int .i64 ef, .int .i64 et, .slice eA q2 ecc] ∧ X.ownsRow W5.heap.size 31 5 (.slice (some ⟨gE, 0, none⟩) 0 0) 0 [] ∧ (Value.slice (some ⟨gE, 0, none⟩) 0 0).ownBlock ≠ some aY1.heap.size) ⟨HBaY1.alloc HBaY1.size _, heap_alloc_new aY1 _, hEaY1.alloc _, fun e => by have := (hEaY1.lt _ e).2; omega⟩ (fun aY2 hF => ?_)
        obtain ⟨HBaY2, h7aY2, hEaY2, hnaY2⟩ := hF
        have hHeld : (fun WW : World => WW.cell? ⟨br, 3, none⟩ = some (.slice UA n4 uc) ∧ EBox WW be #[.int .i64 eid, .string elb, .int .i64 ef, .int .i64 et, .slice eA q2 ecc]) aY2 := (HSX.out _ (fun k h1 h2 => HBaY2.block k h1))
        obtain ⟨g7, hgaY2⟩ : ∃ g, g = aY1.heap.size := ⟨_, rfl⟩
        simp only [← hgaY2] at h7aY2 hnaY2 ⊢
        clear hgaY2
        clear HBaY1
        clear hEaY1
        refine one_step (i := 3) (by kernel_rfl) rfl (fun K hK => ?_)
        refine of_if (by rfl) ?_
        refine app_all_E (.tmp 20) (.tmp 22) rfl W5.heap.size _ rfl hEaY2 UA es n4 uc HN.out.2.2.2.1 rfl HUA.out (HREADE.out aY2 HBaY2) (by have := hN; omega) HBaY2.size ?_
        intro v2 Z hT0 hb0 hg0
        have HBZ : Below W5.heap.size W5 Z := HBaY2.trans hb0
        have h7Z : EBox Z g7 #[.int .i64 eid, .string elb, .int .i64 ef, .int .i64 et, .slice eA q2 ecc] := (hg0.block _ (Array.getElem?_eq_some_iff.1 h7aY2).1 (fun e => hnaY2 e.symm)).trans h7aY2
        refine hK.out _ _ (HSX.out _ (fun k h1 h2 => HBZ.block k h1)) (fun hHeld => ?_)
        clear hHeld hK K
        try simp only [Act.put, List.setIfInBounds_toArray, List.set_cons_zero, List.set_cons_succ]
        refine name_world (F := fun X => Below W5.heap.size W5 X ∧ X.ownsRow W5.heap.size 31 5 v2 n4 (es.flatMap cellsED) ∧ EBox X g7 #[.int .i64 eid, .string elb, .int .i64 ef, .int .i64 et, .slice eA q2 ecc]) ⟨HBZ, hT0, h7Z⟩ (fun aY3 hF => ?_)
        obtain ⟨HBaY3, hTaY3, h7aY3⟩ := hF
        have hHeld : (fun WW : World => WW.cell? ⟨br, 3, none⟩ = some (.slice UA n4 uc) ∧ EBox WW be #[.int .i64 eid, .string elb, .int .i64 ef, .int .i64 et, .slice eA q2 ecc]) aY3 := (HSX.out _ (fun k h1 h2 => HBaY3.block k h1))
        clear HBaY2
        clear hEaY2 h7aY2 hnaY2
        clear hT0 hb0 hg0 HBZ h7Z
        refine one_step (i := 6) (by kernel_rfl) rfl (fun K hK => ?_)
        refine of_if (by rfl) ?_
        refine app_one_E (.tmp 23) (.tmp 25) rfl W5.heap.size _ _ _ rfl hTaY3 g7 (⟨eid, elb, ef, et, eA, eqs, ecc⟩ : ED) rfl (by rw [← HEC.out]; exact h7aY3) (by have := hN; omega) HBaY3.size ?_
        intro v8 Z8 hT8 hb8 hg8
        have HB8 : Below W5.heap.size W5 Z8 := HBaY3.trans hb8
        obtain ⟨A8, c8, rfl, hr8⟩ := read_more_E HN.out.2.2.2.1 hT8 (by have := hN; omega) (fun x hx => (HGE.out.1 x hx).below (below_then HB5.out HB8)) (HGE.out.2.below (below_then HB5.out HB8))
        clear hr8 hb8 hg8
        refine hK.out _ _ (HSX.out _ (fun k h1 h2 => HB8.block k h1)) (fun hHeld => ?_)
        clear hHeld hK K
        try simp only [Act.put, List.setIfInBounds_toArray, List.set_cons_zero, List.set_cons_succ]
        refine name_world (F := fun X => Below W5.heap.size W5 X ∧ X.ownsRow W5.heap.size 31 5 (.slice A8 (n4 + 1) c8) (n4 + 1) (es.flatMap cellsED ++ cellsED (⟨eid, elb, ef, et, eA, eqs, ecc⟩ : ED))) ⟨HB8, hT8⟩ (fun aX8 hF => ?_)
        obtain ⟨HBaX8, hTaX8⟩ := hF
        have hHeld : (fun WW : World => WW.cell? ⟨br, 3, none⟩ = some (.slice UA n4 uc) ∧ EBox WW be #[.int .i64 eid, .string elb, .int .i64 ef, .int .i64 et, .slice eA q2 ecc]) aX8 := (HSX.out _ (fun k h1 h2 => HBaX8.block k h1))
        clear HB8 hT8 HBaY3 hTaY3 h7aY3
        refine take_in (i := 7) (v := ?v7az5) rfl (by kernel_rfl) (by kernel_rfl) (by kernel_rfl) (fun _ _ _ h => h) (by rfl) ?hy7az5 (by assumption) ?_
        case hy7az5 => intro WW hSw; (try dsimp only at hSw); go_simp; try with_reducible rfl
        try simp only [Act.put, List.setIfInBounds_toArray, List.set_cons_zero, List.set_cons_succ]
        have hfz : aX8.frozen? ⟨bm, 3, none⟩ = false := GBox.free (W := aX8) (b := bm) ((HBaX8.block _ (by have := HX5.out; omega)).trans HM5.out) 3
        have hcl := GBox.cells (W := aX8) (b := bm) ((HBaX8.block _ (by have := HX5.out; omega)).trans HM5.out) 3
        refine one_step (i := 8) (by kernel_rfl) rfl (fun K hK => ?_)
        go_simp
        refine hK.out _ _ (HSX.out _ (fun k h1 h2 => (heap_setCell_other _ _ _ _ h2).trans (HBaX8.block k h1))) (fun hHeld => ?_)
        clear hHeld hK K
        try simp only [Act.put, List.setIfInBounds_toArray, List.set_cons_zero, List.set_cons_succ]
        refine wpAnyH_done (by kernel_rfl) ?_ _
        go_wp2
        go_meet
        case rel =>
          have hbY : Below W5.heap.size W5 _ := HBaX8
          have hdx := HX5.out
          have hbw := below_set (below_then HB5.out HBaX8) (p := ⟨bm, 3, none⟩) (by show w.heap.size ≤ bm; omega) (.slice A8 (n4 + 1) c8)
          obtain ⟨A9, c9, he9, hr9⟩ := read_more_E HN.out.2.2.2.1 (own_set hTaX8 ⟨bm, 3, none⟩ (.slice A8 (n4 + 1) c8) (by show bm < W5.heap.size; omega)) (by have := hN; omega) (fun x hx => (HGE.out.1 x hx).below hbw) (HGE.out.2.below hbw)
          cases he9
          exact ⟨hbw, by have := HBaX8.size; simp; omega, fun k h1 h2 => (heap_setCell_other _ _ _ _ h2).trans (HBaX8.block k h1), A8, c8, GBox.put (W := aX8) (b := bm) ((HBaX8.block _ (by omega)).trans HM5.out) 3 _, hr9⟩
    · go_simp
      refine hK.out _ _ (HSX.out _ (fun k h1 h2 => (HBaY0.alloc HBaY0.size _).block k h1)) (fun hHeld => ?_)
      clear hHeld hK K
      try simp only [Act.put, List.setIfInBounds_toArray, List.set_cons_zero, List.set_cons_succ]
      refine name_world (F := fun X => Below W5.heap.size W5 X ∧ EBox X aY0.heap.size #[.int .i64 eid, .string elb, .int .i64 ef, .int .i64 et, .slice eA q2 ecc]) ⟨HBaY0.alloc HBaY0.size _, heap_alloc_new aY0 _⟩ (fun aY1 hF => ?_)
      obtain ⟨HBaY1, h7aY1⟩ := hF
      have hHeld : (fun WW : World => WW.cell? ⟨br, 3, none⟩ = some (.slice UA n4 uc) ∧ EBox WW be #[.int .i64 eid, .string elb, .int .i64 ef, .int .i64 et, .slice eA q2 ecc]) aY1 := (HSX.out _ (fun k h1 h2 => HBaY1.block k h1))
      obtain ⟨g7, hgaY1⟩ : ∃ g, g = aY0.heap.size := ⟨_, rfl⟩
      simp only [← hgaY1] at h7aY1 ⊢
      clear hgaY1
      clear HBaY0
      refine one_step (i := 0) (by kernel_rfl) rfl (fun K hK => ?_)
      go_simp
      refine hK.out _ _ (HSX.out _ (fun k h1 h2 => (HBaY1.alloc HBaY1.size _).block k h1)) (fun hHeld => ?_)
      clear hHeld hK K
      try simp only [Act.put, List.setIfInBounds_toArray, List.set_cons_zero, List.set_cons_succ]
      refine name_world (F := fun X => Below W5.heap.size W5 X ∧ X.ownsRow W5.heap.size 31 5 (.slice (some ⟨aY1.heap.size, 0, none⟩) 0 0) 0 [] ∧ EBox X g7 #[.int .i64 eid, .string elb, .int .i64 ef, .int .i64 et, .slice eA q2 ecc] ∧ (Value.slice (some ⟨aY1.heap.size, 0, none⟩) 0 0).ownBlock ≠ some g7) ⟨HBaY1.alloc HBaY1.size _, own_empty_E aY1 _ HBaY1.size, (heap_alloc_old _ _ (Array.getElem?_eq_some_iff.1 h7aY1).1).trans h7aY1, fun e => by have h : aY1.heap.size = g7 := Option.some.inj e; have := (Array.getElem?_eq_some_iff.1 h7aY1).1; omega⟩ (fun aY2 hF => ?_)
      obtain ⟨HBaY2, hEaY2, h7aY2, hnaY2⟩ := hF
      have hHeld : (fun WW : World => WW.cell? ⟨br, 3, none⟩ = some (.slice UA n4 uc) ∧ EBox WW be #[.int .i64 eid, .string elb, .int .i64 ef, .int .i64 et, .slice eA q2 ecc]) aY2 := (HSX.out _ (fun k h1 h2 => HBaY2.block k h1))
      obtain ⟨gE, hgaY2⟩ : ∃ g, g = aY1.heap.size := ⟨_, rfl⟩
      simp only [← hgaY2] at hEaY2 hnaY2 ⊢
      clear hgaY2
      clear HBaY1
      clear h7aY1
      refine one_step (i := 3) (by kernel_rfl) rfl (fun K hK => ?_)
      refine of_if (by rfl) ?_
      refine app_all_E (.tmp 20) (.tmp 22) rfl W5.heap.size _ rfl hEaY2 UA es n4 uc HN.out.2.2.2.1 rfl HUA.out (HREADE.out aY2 HBaY2) (by have := hN; omega) HBaY2.size ?_
      intro v2 Z hT0 hb0 hg0
      have HBZ : Below W5.heap.size W5 Z := HBaY2.trans hb0
      have h7Z : EBox Z g7 #[.int .i64 eid, .string elb, .int .i64 ef, .int .i64 et, .slice eA q2 ecc] := (hg0.block _ (Array.getElem?_eq_some_iff.1 h7aY2).1 (fun e => hnaY2 e.symm)).trans h7aY2
      refine hK.out _ _ (HSX.out _ (fun k h1 h2 => HBZ.block k h1)) (fun hHeld => ?_)
      clear hHeld hK K
      try simp only [Act.put, List.setIfInBounds_toArray, List.set_cons_zero, List.set_cons_succ]
      refine name_world (F := fun X => Below W5.heap.size W5 X ∧ X.ownsRow W5.heap.size 31 5 v2 n4 (es.flatMap cellsED) ∧ EBox X g7 #[.int .i64 eid, .string elb, .int .i64 ef, .int .i64 et, .slice eA q2 ecc]) ⟨HBZ, hT0, h7Z⟩ (fun aY3 hF => ?_)
      obtain ⟨HBaY3, hTaY3, h7aY3⟩ := hF
      have hHeld : (fun WW : World => WW.cell? ⟨br, 3, none⟩ = some (.slice UA n4 uc) ∧ EBox WW be #[.int .i64 eid, .string elb, .int .i64 ef, .int .i64 et, .slice eA q2 ecc]) aY3 := (HSX.out _ (fun k h1 h2 => HBaY3.block k h1))
      clear HBaY2
      clear hEaY2 h7aY2 hnaY2
      clear hT0 hb0 hg0 HBZ h7Z
      refine one_step (i := 6) (by kernel_rfl) rfl (fun K hK => ?_)
      refine of_if (by rfl) ?_
      refine app_one_E (.tmp 23) (.tmp 25) rfl W5.heap.size _ _ _ rfl hTaY3 g7 (⟨eid, elb, ef, et, eA, eqs, ecc⟩ : ED) rfl (by rw [← HEC.out]; exact h7aY3) (by have := hN; omega) HBaY3.size ?_
      intro v8 Z8 hT8 hb8 hg8
      have HB8 : Below W5.heap.size W5 Z8 := HBaY3.trans hb8
      obtain ⟨A8, c8, rfl, hr8⟩ := read_more_E HN.out.2.2.2.1 hT8 (by have := hN; omega) (fun x hx => (HGE.out.1 x hx).below (below_then HB5.out HB8)) (HGE.out.2.below (below_then HB5.out HB8))
      clear hr8 hb8 hg8
      refine hK.out _ _ (HSX.out _ (fun k h1 h2 => HB8.block k h1)) (fun hHeld => ?_)
      clear hHeld hK K
      try simp only [Act.put, List.setIfInBounds_toArray, List.set_cons_zero, List.set_cons_succ]
      refine name_world (F := fun X => Below W5.heap.size W5 X ∧ X.ownsRow W5.heap.size 31 5 (.slice A8 (n4 + 1) c8) (n4 + 1) (es.flatMap cellsED ++ cellsED (⟨eid, elb, ef, et, eA, eqs, ecc⟩ : ED))) ⟨HB8, hT8⟩ (fun aX8 hF => ?_)
      obtain ⟨HBaX8, hTaX8⟩ := hF
      have hHeld : (fun WW : World => WW.cell? ⟨br, 3, none⟩ = some (.slice UA n4 uc) ∧ EBox WW be #[.int .i64 eid, .string elb, .int .i64 ef, .int .i64 et, .slice eA q2 ecc]) aX8 := (HSX.out _ (fun k h1 h2 => HBaX8.block k h1))
      clear HB8 hT8 HBaY3 hTaY3 h7aY3
      refine take_in (i := 7) (v := ?v7az6) rfl (by kernel_rfl) (by kernel_rfl) (by kernel_rfl) (fun _ _ _ h => h) (by rfl) ?hy7az6 (by assumption) ?_
      case hy7az6 => intro WW hSw; (try dsimp only at hSw); go_simp; try with_reducible rfl
      try simp only [Act.put, List.setIfInBounds_toArray, List.set_cons_zero, List.set_cons_succ]
      have hfz : aX8.frozen? ⟨bm, 3, none⟩ = false := GBox.free (W := aX8) (b := bm) ((HBaX8.block _ (by have := HX5.out; omega)).trans HM5.out) 3
      have hcl := GBox.cells (W := aX8) (b := bm) ((HBaX8.block _ (by have := HX5.out; omega)).trans HM5.out) 3
      refine one_step (i := 8) (by kernel_rfl) rfl (fun K hK => ?_)
      go_simp
      refine hK.out _ _ (HSX.out _ (fun k h1 h2 => (heap_setCell_other _ _ _ _ h2).trans (HBaX8.block k h1))) (fun hHeld => ?_)
      clear hHeld hK K
      try simp only [Act.put, List.setIfInBounds_toArray, List.set_cons_zero, List.set_cons_succ]
      refine wpAnyH_done (by kernel_rfl) ?_ _
      go_wp2
      go_meet
      case rel =>
        have hbY : Below W5.heap.size W5 _ := HBaX8
        have hdx := HX5.out
        have hbw := below_set (below_then HB5.out HBaX8) (p := ⟨bm, 3, none⟩) (by show w.heap.size ≤ bm; omega) (.slice A8 (n4 + 1) c8)
        obtain ⟨A9, c9, he9, hr9⟩ := read_more_E HN.out.2.2.2.1 (own_set hTaX8 ⟨bm, 3, none⟩ (.slice A8 (n4 + 1) c8) (by show bm < W5.heap.size; omega)) (by have := hN; omega) (fun x hx => (HGE.out.1 x hx).below hbw) (HGE.out.2.below hbw)
        cases he9
        exact ⟨hbw, by have := HBaX8.size; simp; omega, fun k h1 h2 => (heap_setCell_other _ _ _ _ h2).trans (HBaX8.block k h1), A8, c8, GBox.put (W := aX8) (b := bm) ((HBaX8.block _ (by omega)).trans HM5.out) 3 _, hr9⟩
  clear HSX

  case rest =>
    obtain ⟨hbc, hsc, hkc, A8, c8, hmc, hrc⟩ := hcut
    have HB6 := Aside0.mk hbc
    have HM6 := Aside0.mk hmc
    have HE8 := Aside0.mk hrc
    have HR6 : Aside0 (GBox wc br #[.slice NA n1 nc, .slice EA n2 ec, .slice VA n3 vc, .slice UA n4 uc]) := ⟨(hkc br (by have := HX5.out; omega) (by have := HX5.out; omega)).trans HR5.out⟩
    have HN6 : Aside0 (NBox wc bn #[.int .i64 nid, .string nlb, .slice nA q1 ncc]) := ⟨(hkc bn (by have := HX5.out; omega) (by have := HX5.out; omega)).trans HN5.out⟩
    have HP6 : Aside0 (PBox wc bp #[.int .i64 c1, .int .i64 (c2 : Int)]) := ⟨(hkc bp (by have := HX5.out; omega) (by have := HX5.out; omega)).trans HP5.out⟩
    have HX6 : Aside0 (bp < wc.heap.size ∧ bm < wc.heap.size ∧ bp ≠ bm ∧ w.heap.size ≤ bp ∧ w.heap.size ≤ bm ∧ br < bp ∧ bn < bp ∧ bp < bm) := ⟨by
      have h1 := HX5.out
      omega⟩
    obtain ⟨DR, hDR⟩ : ∃ DR, DR = checkR nts ets ns (es ++ [(⟨eid, elb, ef, et, eA, eqs, ecc⟩ : ED)]) := ⟨_, rfl⟩
    rw [← hDR] at HPE
    have HCK6 : Aside0 (∀ W, Below wc.heap.size wc W → Calls Try.prog 7 #[.agg #[.slice NA n1 nc, .slice EA n2 ec, .slice VA n3 vc, .slice A8 (n4 + 1) c8]] W fun e w' => e = .returned (.tuple #[.agg #[.int .i64 DR.1, .int .i64 (DR.2.1 : Int)], .int .i64 DR.2.2]) ∧ Below W.heap.size W w') := ⟨fun W h => by
      have hw := below_then HB6.out h
      have hl : (es ++ [(⟨eid, elb, ef, et, eA, eqs, ecc⟩ : ED)]).length = n4 + 1 := by rw [List.length_append, HN.out.2.2.2.1]; rfl
      have hh := check_any nts ets ns (es ++ [(⟨eid, elb, ef, et, eA, eqs, ecc⟩ : ED)]) NA EA VA A8 nc ec vc c8 W (HG.out.nts.below hw) (HG.out.ets.below hw) (HG.out.ns.below hw) (HE8.out.below h) (by have := hN; have := HN.out; omega) (by have := hN; have := HN.out; omega)
      rw [hl, ← HN.out.1, ← HN.out.2.1, ← HN.out.2.2.1, ← hDR] at hh
      exact hh⟩
    clear hDR
    obtain ⟨d1, d2, d3⟩ := DR
    simp only at HCK6
    have hck := HCK6.out wc (Below.refl _ _)
    have hmx := hmc.cells
    clear hbc hsc hmc hrc hkc HR5 HN5 HE5 HM5 HP5 HB5 HX5 HREADE HGE HEC
    go_upto_region 6 with (go_at_call 7; go_loud (refine hck.mono ?_); first | (intro e W7 he hb7; subst he) | rintro e W7 ⟨rfl, hb7⟩)
    obtain ⟨W8, hW8⟩ : ∃ W8, W8 = W7.alloc (.cells #[.int .i64 d1, .int .i64 (d2 : Int)] 35) := ⟨_, rfl⟩
    obtain ⟨bt, hbt⟩ : ∃ bt, bt = W7.heap.size := ⟨_, rfl⟩
    have hb68 : Below wc.heap.size wc W8 := by rw [hW8]; exact below_more hb7 _
    have HT8 : Aside0 (PBox W8 bt #[.int .i64 d1, .int .i64 (d2 : Int)]) := ⟨by unfold PBox; rw [hbt, hW8]; exact heap_alloc_new W7 _⟩
    have HR8 : Aside0 (GBox W8 br #[.slice NA n1 nc, .slice EA n2 ec, .slice VA n3 vc, .slice UA n4 uc]) := ⟨(hb68.block br (by have := HX6.out; omega)).trans HR6.out⟩
    have HM8 : Aside0 (GBox W8 bm #[.slice NA n1 nc, .slice EA n2 ec, .slice VA n3 vc, .slice A8 (n4 + 1) c8]) := ⟨(hb68.block bm (by have := HX6.out; omega)).trans HM6.out⟩
    have HN8 := Aside0.mk (HN6.out.below hb68)
    have HP8 : Aside0 (PBox W8 bp #[.int .i64 c1, .int .i64 (c2 : Int)]) := ⟨(hb68.block bp (by have := HX6.out; omega)).trans HP6.out⟩
    have HB8 := Aside0.mk (below_then HB6.out hb68)
    have HX8 : Aside0 (bp < bm ∧ bm < bt ∧ bt < W8.heap.size ∧ w.heap.size ≤ bp ∧ w.heap.size ≤ bm ∧ br < bp ∧ bn < bp) := ⟨by
      have h1 := HX6.out
      have h2 := hb7.size
      have h3 : W8.heap.size = W7.heap.size + 1 := by rw [hW8]; simp
      omega⟩
    rw [← hW8, ← hbt]
    clear hW8 hbt hb68 hb7 hck hmx HR6 HM6 HN6 HP6 HB6 HX6 HCK6
    by_cases hc3 : c3 = 0
    · obtain hq : d3 = 0 ∨ ∃ er, (d1, d2, d3) = (4, n4, er) := by
        rw [HN.out.2.2.2.1]
        exact HPE.out.2 hc3
      have HQ := Aside0.mk hq
      clear hq
      subst hc3
      have hp8 := HP8.out.cells
      have ht8 := HT8.out.cells
      have hr8 := HR8.out.cells
      by_cases hd3 : d3 = 0
      · subst hd3
        go_upto_region 10 with (fail)
        clear hp8 ht8 hr8
        have hr8 := HR8.out.cells
        have hmf := HM8.out.free
        have hmc := HM8.out.cells
        go_upto_region 11 with (fail)
        obtain ⟨W9, hW9⟩ : ∃ W9, W9 = ((((W8.setCell ⟨bm, 0, none⟩ (.slice NA n1 nc)).setCell ⟨bm, 1, none⟩ (.slice EA n2 ec)).setCell ⟨bm, 2, none⟩ (.slice VA n3 vc)).setCell ⟨bm, 3, none⟩ (.slice UA n4 uc)) := ⟨_, rfl⟩
        rw [← hW9]
        have hk9 : ∀ k, k ≠ bm → W9.heap[k]? = W8.heap[k]? := fun k h => by
          rw [hW9, heap_setCell_other _ ⟨bm, 3, none⟩ _ _ h, heap_setCell_other _ ⟨bm, 2, none⟩ _ _ h, heap_setCell_other _ ⟨bm, 1, none⟩ _ _ h, heap_setCell_other _ ⟨bm, 0, none⟩ _ _ h]
        have HM9 : Aside0 (GBox W9 bm #[.slice NA n1 nc, .slice EA n2 ec, .slice VA n3 vc, .slice UA n4 uc]) := ⟨by
          rw [hW9]
          exact (((HM8.out.put 0 (.slice NA n1 nc)).put 1 (.slice EA n2 ec)).put 2 (.slice VA n3 vc)).put 3 (.slice UA n4 uc)⟩
        have hz9 : W9.heap.size = W8.heap.size := by rw [hW9]; simp
        have HB9 : Aside0 (Below w.heap.size w W9) := ⟨by
          have hx : w.heap.size ≤ bm := by have := HX8.out; omega
          rw [hW9]
          exact below_set (below_set (below_set (below_set HB8.out (p := ⟨bm, 0, none⟩) hx _) (p := ⟨bm, 1, none⟩) hx _) (p := ⟨bm, 2, none⟩) hx _) (p := ⟨bm, 3, none⟩) hx _⟩
        have HR9 : Aside0 (GBox W9 br #[.slice NA n1 nc, .slice EA n2 ec, .slice VA n3 vc, .slice UA n4 uc]) := ⟨(hk9 br (by have := HX8.out; omega)).trans HR8.out⟩
        have HN9 : Aside0 (NBox W9 bn #[.int .i64 nid, .string nlb, .slice nA q1 ncc]) := ⟨(hk9 bn (by have := HX8.out; omega)).trans HN8.out⟩
        have HT9 : Aside0 (PBox W9 bt #[.int .i64 d1, .int .i64 (d2 : Int)]) := ⟨(hk9 bt (by have := HX8.out; omega)).trans HT8.out⟩
        have HX9 : Aside0 (bm < bt ∧ bt < W9.heap.size ∧ w.heap.size ≤ bm ∧ bm < W9.heap.size ∧ br < bm ∧ bn < bm) := ⟨by
          have h1 := HX8.out
          omega⟩
        clear hr8 hmf hmc hW9 hk9 hz9 HR8 HM8 HN8 HP8 HT8 HB8 HX8
        have HEC : Aside0 ((#[.int .i64 nid, .string nlb, .slice nA q1 ncc] : Array Value) = (cellsND (⟨nid, nlb, nA, nqs, ncc⟩ : ND)).toArray) := ⟨by rw [HN.out.2.2.2.2.1]; rfl⟩
        have HREADN : Aside0 (∀ X, Below W9.heap.size W9 X → ReadsN X VA ns) := ⟨fun X h => HG.out.ns.below (below_then HB9.out h)⟩
        have HGN : Aside0 ((∀ x ∈ ns, goodND w x) ∧ goodND w (⟨nid, nlb, nA, nqs, ncc⟩ : ND)) := ⟨ReadsG.all_N HG.out.ns, HNE.out.1⟩
        have HSX : Aside0 (∀ X : World, (∀ k, k < W9.heap.size → k ≠ bm → X.heap[k]? = W9.heap[k]?) → (fun WW : World => WW.cell? ⟨br, 2, none⟩ = some (.slice VA n3 vc) ∧ NBox WW bn #[.int .i64 nid, .string nlb, .slice nA q1 ncc]) X) := ⟨fun X h => ⟨(World.cell?_of_block (a := ⟨br, 2, none⟩) (h br (by have := HX9.out; omega) (by have := HX9.out; omega))).trans (HR9.out.cells 2), (h bn (by have := HX9.out; omega) (by have := HX9.out; omega)).trans HN9.out⟩⟩
        go_cut [] from 9999 (fun X => Below w.heap.size w X ∧ W9.heap.size ≤ X.heap.size ∧ (∀ k, k < W9.heap.size → k ≠ bm → X.heap[k]? = W9.heap[k]?) ∧ ∃ A8 c8, GBox X bm #[.slice NA n1 nc, .slice EA n2 ec, .slice A8 (n3 + 1) c8, .slice UA n4 uc] ∧ ReadsN X A8 (ns ++ [(⟨nid, nlb, nA, nqs, ncc⟩ : ND)]))
        case first =>
          refine wp_region_held_drew (S := (fun WW : World => WW.cell? ⟨br, 2, none⟩ = some (.slice VA n3 vc) ∧ NBox WW bn #[.int .i64 nid, .string nlb, .slice nA q1 ncc])) (by kernel_rfl) ?_ (fun hHeld => ?_)
          · exact HSX.out _ (fun k h1 h2 => rfl)
          refine take_in (i := 1) (v := ?v1bxz1) rfl (by kernel_rfl) (by kernel_rfl) (by kernel_rfl) (fun _ _ _ h => h) (by rfl) ?hy1bxz1 (by assumption) ?_
          case hy1bxz1 => intro WW hSw; (try dsimp only at hSw); go_simp; try with_reducible rfl
          try simp only [Act.put, List.setIfInBounds_toArray, List.set_cons_zero, List.set_cons_succ]
          refine take_in (i := 2) (v := ?v2bxz2) rfl (by kernel_rfl) (by kernel_rfl) (by kernel_rfl) (fun _ _ _ h => h) (by rfl) ?hy2bxz2 (by assumption) ?_
          case hy2bxz2 => intro WW hSw; (try dsimp only at hSw); go_simp; try with_reducible rfl
          try simp only [Act.put, List.setIfInBounds_toArray, List.set_cons_zero, List.set_cons_succ]
          refine take_in (i := 4) (v := ?v4bxz3) rfl (by kernel_rfl) (by kernel_rfl) (by kernel_rfl) (fun _ _ _ h => h) (by rfl) ?hy4bxz3 (by assumption) ?_
          case hy4bxz3 => intro WW hSw; have h1 := hSw.2.cells; go_simp; try with_reducible rfl
          try simp only [Act.put, List.setIfInBounds_toArray, List.set_cons_zero, List.set_cons_succ]
          refine name_world (F := fun X => Below W9.heap.size W9 X) (by first | exact Below.refl _ _ | exact (Below.refl _ _).drew | exact (Below.refl _ _).drew.drew) (fun bxY0 HBbxY0 => ?_)
          clear hHeld
          have hHeld : (fun WW : World => WW.cell? ⟨br, 2, none⟩ = some (.slice VA n3 vc) ∧ NBox WW bn #[.int .i64 nid, .string nlb, .slice nA q1 ncc]) bxY0 := (HSX.out _ (fun k h1 h2 => HBbxY0.block k h1))
          refine two_step (i := 0) (j := 5) (by kernel_rfl) rfl rfl (fun K hK => ?_) (fun K hK => ?_)
          · go_simp
            refine hK.out _ _ (HSX.out _ (fun k h1 h2 => (HBbxY0.alloc HBbxY0.size _).block k h1)) (fun hHeld => ?_)
            clear hHeld hK K
            try simp only [Act.put, List.setIfInBounds_toArray, List.set_cons_zero, List.set_cons_succ]
            refine name_world (F := fun X => Below W9.heap.size W9 X ∧ X.ownsRow W9.heap.size 29 3 (.slice (some ⟨bxY0.heap.size, 0, none⟩) 0 0) 0 []) ⟨HBbxY0.alloc HBbxY0.size _, own_empty_N bxY0 _ HBbxY0.size⟩ (fun bxY1 hF => ?_)
            obtain ⟨HBbxY1, hEbxY1⟩ := hF
            have hHeld : (fun WW : World => WW.cell? ⟨br, 2, none⟩ = some (.slice VA n3 vc) ∧ NBox WW bn #[.int .i64 nid, .string nlb, .slice nA q1 ncc]) bxY1 := (HSX.out _ (fun k h1 h2 => HBbxY1.block k h1))
            obtain ⟨gE, hgbxY1⟩ : ∃ g, g = bxY0.heap.size := ⟨_, rfl⟩
            simp only [← hgbxY1] at hEbxY1 ⊢
            clear hgbxY1
            clear HBbxY0
            refine two_step (i := 3) (j := 5) (by kernel_rfl) rfl rfl (fun K hK => ?_) (fun K hK => ?_)
            · refine of_if (by rfl) ?_
              refine app_all_N (.tmp 57) (.tmp 59) rfl W9.heap.size _ rfl hEbxY1 VA ns n3 vc HN.out.2.2.1 rfl HVA.out (HREADN.out bxY1 HBbxY1) (by have := hN; omega) HBbxY1.size ?_
              intro v2 Z hT0 hb0 hg0
              have HBZ : Below W9.heap.size W9 Z := HBbxY1.trans hb0
              refine hK.out _ _ (HSX.out _ (fun k h1 h2 => HBZ.block k h1)) (fun hHeld => ?_)
              clear hHeld hK K
              try simp only [Act.put, List.setIfInBounds_toArray, List.set_cons_zero, List.set_cons_succ]
              refine name_world (F := fun X => Below W9.heap.size W9 X ∧ X.ownsRow W9.heap.size 29 3 v2 n3 (ns.flatMap cellsND)) ⟨HBZ, hT0⟩ (fun bxY2 hF => ?_)
              obtain ⟨HBbxY2, hTbxY2⟩ := hF
              have hHeld : (fun WW : World => WW.cell? ⟨br, 2, none⟩ = some (.slice VA n3 vc) ∧ NBox WW bn #[.int .i64 nid, .string nlb, .slice nA q1 ncc]) bxY2 := (HSX.out _ (fun k h1 h2 => HBbxY2.block k h1))
              clear HBbxY1
              clear hEbxY1
              clear hT0 hb0 hg0 HBZ
              refine one_step (i := 5) (by kernel_rfl) rfl (fun K hK => ?_)
              go_simp
              refine hK.out _ _ (HSX.out _ (fun k h1 h2 => (HBbxY2.alloc HBbxY2.size _).block k h1)) (fun hHeld => ?_)
              clear hHeld hK K
              try simp only [Act.put, List.setIfInBounds_toArray, List.set_cons_zero, List.set_cons_succ]
              refine name_world (F := fun X => Below W9.heap.size W9 X ∧ NBox X bxY2.heap.size #[.int .i64 nid, .string nlb, .slice nA q1 ncc] ∧ X.ownsRow W9.heap.size 29 3 v2 n3 (ns.flatMap cellsND)) ⟨HBbxY2.alloc HBbxY2.size _, heap_alloc_new bxY2 _, hTbxY2.alloc _⟩ (fun bxY3 hF => ?_)
              obtain ⟨HBbxY3, h7bxY3, hTbxY3⟩ := hF
              have hHeld : (fun WW : World => WW.cell? ⟨br, 2, none⟩ = some (.slice VA n3 vc) ∧ NBox WW bn #[.int .i64 nid, .string nlb, .slice nA q1 ncc]) bxY3 := (HSX.out _ (fun k h1 h2 => HBbxY3.block k h1))
              obtain ⟨g7, hgbxY3⟩ : ∃ g, g = bxY2.heap.size := ⟨_, rfl⟩
              simp only [← hgbxY3] at h7bxY3 ⊢
              clear hgbxY3
              clear HBbxY2
              clear hTbxY2
              refine one_step (i := 6) (by kernel_rfl) rfl (fun K hK => ?_)
              refine of_if (by rfl) ?_
              refine app_one_N (.tmp 60) (.tmp 62) rfl W9.heap.size _ _ _ rfl hTbxY3 g7 (⟨nid, nlb, nA, nqs, ncc⟩ : ND) rfl (by rw [← HEC.out]; exact h7bxY3) (by have := hN; omega) HBbxY3.size ?_
              intro v8 Z8 hT8 hb8 hg8
              have HB8 : Below W9.heap.size W9 Z8 := HBbxY3.trans hb8
              obtain ⟨A8, c8, rfl, hr8⟩ := read_more_N HN.out.2.2.1 hT8 (by have := hN; omega) (fun x hx => (HGN.out.1 x hx).below (below_then HB9.out HB8)) (HGN.out.2.below (below_then HB9.out HB8))
              clear hr8 hb8 hg8
              refine hK.out _ _ (HSX.out _ (fun k h1 h2 => HB8.block k h1)) (fun hHeld => ?_)
              clear hHeld hK K
              try simp only [Act.put, List.setIfInBounds_toArray, List.set_cons_zero, List.set_cons_succ]
              refine name_world (F := fun X => Below W9.heap.size W9 X ∧ X.ownsRow W9.heap.size 29 3 (.slice A8 (n3 + 1) c8) (n3 + 1) (ns.flatMap cellsND ++ cellsND (⟨nid, nlb, nA, nqs, ncc⟩ : ND))) ⟨HB8, hT8⟩ (fun bxX8 hF => ?_)
              obtain ⟨HBbxX8, hTbxX8⟩ := hF
              have hHeld : (fun WW : World => WW.cell? ⟨br, 2, none⟩ = some (.slice VA n3 vc) ∧ NBox WW bn #[.int .i64 nid, .string nlb, .slice nA q1 ncc]) bxX8 := (HSX.out _ (fun k h1 h2 => HBbxX8.block k h1))
              clear HB8 hT8 HBbxY3 hTbxY3 h7bxY3
              refine take_in (i := 7) (v := ?v7bxz4) rfl (by kernel_rfl) (by kernel_rfl) (by kernel_rfl) (fun _ _ _ h => h) (by rfl) ?hy7bxz4 (by assumption) ?_
              case hy7bxz4 => intro WW hSw; (try dsimp only at hSw); go_simp; try with_reducible rfl
              try simp only [Act.put, List.setIfInBounds_toArray, List.set_cons_zero, List.set_cons_succ]
              have hfz : bxX8.frozen? ⟨bm, 2, none⟩ = false := GBox.free (W := bxX8) (b := bm) ((HBbxX8.block _ (by have := HX9.out; omega)).trans HM9.out) 2
              have hcl := GBox.cells (W := bxX8) (b := bm) ((HBbxX8.block _ (by have := HX9.out; omega)).trans HM9.out) 2
              refine one_step (i := 8) (by kernel_rfl) rfl (fun K hK => ?_)
              go_simp
              refine hK.out _ _ (HSX.out _ (fun k h1 h2 => (heap_setCell_other _ _ _ _ h2).trans (HBbxX8.block k h1))) (fun hHeld => ?_)
              clear hHeld hK K
              try simp only [Act.put, List.setIfInBounds_toArray, List.set_cons_zero, List.set_cons_succ]
              refine wpAnyH_done (by kernel_rfl) ?_ _
              go_wp2
              go_meet
              case rel =>
                have hbY : Below W9.heap.size W9 _ := HBbxX8
                have hdx := HX9.out
                have hbw := below_set (below_then HB9.out HBbxX8) (p := ⟨bm, 2, none⟩) (by show w.heap.size ≤ bm; omega) (.slice A8 (n3 + 1) c8)
                obtain ⟨A9, c9, he9, hr9⟩ := read_more_N HN.out.2.2.1 (own_set hTbxX8 ⟨bm, 2, none⟩ (.slice A8 (n3 + 1) c8) (by show bm < W9.heap.size; omega)) (by have := hN; omega) (fun x hx => (HGN.out.1 x hx).below hbw) (HGN.out.2.below hbw)
                cases he9
                exact ⟨hbw, by have := HBbxX8.size; simp; omega, fun k h1 h2 => (heap_setCell_other _ _ _ _ h2).trans (HBbxX8.block k h1), A8, c8, GBox.put (W := bxX8) (b := bm) ((HBbxX8.block _ (by omega)).trans HM9.out) 2 _, hr9⟩
            · go_simp
              refine hK.out _ _ (HSX.out _ (fun k h1 h2 => (HBbxY1.alloc HBbxY1.size _).block k h1)) (fun hHeld => ?_)
              clear hHeld hK K
              try simp only [Act.put, List.setIfInBounds_toArray, List.set_cons_zero, List.set_cons_succ]
              refine name_world (F := fun X => Below W9.heap.size W9 X ∧ NBox X bxY1.heap.size #[.int .i64 nid, .string nlb, .slice nA q1 ncc] ∧ X.ownsRow W9.heap.size 29 3 (.slice (some ⟨gE, 0, none⟩) 0 0) 0 [] ∧ (Value.slice (some ⟨gE, 0, none⟩) 0 0).ownBlock ≠ some bxY1.heap.size) ⟨HBbxY1.alloc HBbxY1.size _, heap_alloc_new bxY1 _, hEbxY1.alloc _, fun e => by have := (hEbxY1.lt _ e).2; omega⟩ (fun bxY2 hF => ?_)
              obtain ⟨HBbxY2, h7bxY2, hEbxY2, hnbxY2⟩ := hF
              have hHeld : (fun WW : World => WW.cell? ⟨br, 2, none⟩ = some (.slice VA n3 vc) ∧ NBox WW bn #[.int .i64 nid, .string nlb, .slice nA q1 ncc]) bxY2 := (HSX.out _ (fun k h1 h2 => HBbxY2.block k h1))
              obtain ⟨g7, hgbxY2⟩ : ∃ g, g = bxY1.heap.size := ⟨_, rfl⟩
              simp only [← hgbxY2] at h7bxY2 hnbxY2 ⊢
              clear hgbxY2
              clear HBbxY1
              clear hEbxY1
              refine one_step (i := 3) (by kernel_rfl) rfl (fun K hK => ?_)
              refine of_if (by rfl) ?_
              refine app_all_N (.tmp 57) (.tmp 59) rfl W9.heap.size _ rfl hEbxY2 VA ns n3 vc HN.out.2.2.1 rfl HVA.out (HREADN.out bxY2 HBbxY2) (by have := hN; omega) HBbxY2.size ?_
              intro v2 Z hT0 hb0 hg0
              have HBZ : Below W9.heap.size W9 Z := HBbxY2.trans hb0
              have h7Z : NBox Z g7 #[.int .i64 nid, .string nlb, .slice nA q1 ncc] := (hg0.block _ (Array.getElem?_eq_some_iff.1 h7bxY2).1 (fun e => hnbxY2 e.symm)).trans h7bxY2
              refine hK.out _ _ (HSX.out _ (fun k h1 h2 => HBZ.block k h1)) (fun hHeld => ?_)
              clear hHeld hK K
              try simp only [Act.put, List.setIfInBounds_toArray, List.set_cons_zero, List.set_cons_succ]
              refine name_world (F := fun X => Below W9.heap.size W9 X ∧ X.ownsRow W9.heap.size 29 3 v2 n3 (ns.flatMap cellsND) ∧ NBox X g7 #[.int .i64 nid, .string nlb, .slice nA q1 ncc]) ⟨HBZ, hT0, h7Z⟩ (fun bxY3 hF => ?_)
              obtain ⟨HBbxY3, hTbxY3, h7bxY3⟩ := hF
              have hHeld : (fun WW : World => WW.cell? ⟨br, 2, none⟩ = some (.slice VA n3 vc) ∧ NBox WW bn #[.int .i64 nid, .string nlb, .slice nA q1 ncc]) bxY3 := (HSX.out _ (fun k h1 h2 => HBbxY3.block k h1))
              clear HBbxY2
              clear hEbxY2 h7bxY2 hnbxY2
              clear hT0 hb0 hg0 HBZ h7Z
              refine one_step (i := 6) (by kernel_rfl) rfl (fun K hK => ?_)
              refine of_if (by rfl) ?_
              refine app_one_N (.tmp 60) (.tmp 62) rfl W9.heap.size _ _ _ rfl hTbxY3 g7 (⟨nid, nlb, nA, nqs, ncc⟩ : ND) rfl (by rw [← HEC.out]; exact h7bxY3) (by have := hN; omega) HBbxY3.size ?_
              intro v8 Z8 hT8 hb8 hg8
              have HB8 : Below W9.heap.size W9 Z8 := HBbxY3.trans hb8
              obtain ⟨A8, c8, rfl, hr8⟩ := read_more_N HN.out.2.2.1 hT8 (by have := hN; omega) (fun x hx => (HGN.out.1 x hx).below (below_then HB9.out HB8)) (HGN.out.2.below (below_then HB9.out HB8))
              clear hr8 hb8 hg8
              refine hK.out _ _ (HSX.out _ (fun k h1 h2 => HB8.block k h1)) (fun hHeld => ?_)
              clear hHeld hK K
              try simp only [Act.put, List.setIfInBounds_toArray, List.set_cons_zero, List.set_cons_succ]
              refine name_world (F := fun X => Below W9.heap.size W9 X ∧ X.ownsRow W9.heap.size 29 3 (.slice A8 (n3 + 1) c8) (n3 + 1) (ns.flatMap cellsND ++ cellsND (⟨nid, nlb, nA, nqs, ncc⟩ : ND))) ⟨HB8, hT8⟩ (fun bxX8 hF => ?_)
              obtain ⟨HBbxX8, hTbxX8⟩ := hF
              have hHeld : (fun WW : World => WW.cell? ⟨br, 2, none⟩ = some (.slice VA n3 vc) ∧ NBox WW bn #[.int .i64 nid, .string nlb, .slice nA q1 ncc]) bxX8 := (HSX.out _ (fun k h1 h2 => HBbxX8.block k h1))
              clear HB8 hT8 HBbxY3 hTbxY3 h7bxY3
              refine take_in (i := 7) (v := ?v7bxz5) rfl (by kernel_rfl) (by kernel_rfl) (by kernel_rfl) (fun _ _ _ h => h) (by rfl) ?hy7bxz5 (by assumption) ?_
              case hy7bxz5 => intro WW hSw; (try dsimp only at hSw); go_simp; try with_reducible rfl
              try simp only [Act.put, List.setIfInBounds_toArray, List.set_cons_zero, List.set_cons_succ]
              have hfz : bxX8.frozen? ⟨bm, 2, none⟩ = false := GBox.free (W := bxX8) (b := bm) ((HBbxX8.block _ (by have := HX9.out; omega)).trans HM9.out) 2
              have hcl := GBox.cells (W := bxX8) (b := bm) ((HBbxX8.block _ (by have := HX9.out; omega)).trans HM9.out) 2
              refine one_step (i := 8) (by kernel_rfl) rfl (fun K hK => ?_)
              go_simp
              refine hK.out _ _ (HSX.out _ (fun k h1 h2 => (heap_setCell_other _ _ _ _ h2).trans (HBbxX8.block k h1))) (fun hHeld => ?_)
              clear hHeld hK K
              try simp only [Act.put, List.setIfInBounds_toArray, List.set_cons_zero, List.set_cons_succ]
              refine wpAnyH_done (by kernel_rfl) ?_ _
              go_wp2
              go_meet
              case rel =>
                have hbY : Below W9.heap.size W9 _ := HBbxX8
                have hdx := HX9.out
                have hbw := below_set (below_then HB9.out HBbxX8) (p := ⟨bm, 2, none⟩) (by show w.heap.size ≤ bm; omega) (.slice A8 (n3 + 1) c8)
                obtain ⟨A9, c9, he9, hr9⟩ := read_more_N HN.out.2.2.1 (own_set hTbxX8 ⟨bm, 2, none⟩ (.slice A8 (n3 + 1) c8) (by show bm < W9.heap.size; omega)) (by have := hN; omega) (fun x hx => (HGN.out.1 x hx).below hbw) (HGN.out.2.below hbw)
                cases he9
                exact ⟨hbw, by have := HBbxX8.size; simp; omega, fun k h1 h2 => (heap_setCell_other _ _ _ _ h2).trans (HBbxX8.block k h1), A8, c8, GBox.put (W := bxX8) (b := bm) ((HBbxX8.block _ (by omega)).trans HM9.out) 2 _, hr9⟩
          · go_simp
            refine hK.out _ _ (HSX.out _ (fun k h1 h2 => (HBbxY0.alloc HBbxY0.size _).block k h1)) (fun hHeld => ?_)
            clear hHeld hK K
            try simp only [Act.put, List.setIfInBounds_toArray, List.set_cons_zero, List.set_cons_succ]
            refine name_world (F := fun X => Below W9.heap.size W9 X ∧ NBox X bxY0.heap.size #[.int .i64 nid, .string nlb, .slice nA q1 ncc]) ⟨HBbxY0.alloc HBbxY0.size _, heap_alloc_new bxY0 _⟩ (fun bxY1 hF => ?_)
            obtain ⟨HBbxY1, h7bxY1⟩ := hF
            have hHeld : (fun WW : World => WW.cell? ⟨br, 2, none⟩ = some (.slice VA n3 vc) ∧ NBox WW bn #[.int .i64 nid, .string nlb, .slice nA q1 ncc]) bxY1 := (HSX.out _ (fun k h1 h2 => HBbxY1.block k h1))
            obtain ⟨g7, hgbxY1⟩ : ∃ g, g = bxY0.heap.size := ⟨_, rfl⟩
            simp only [← hgbxY1] at h7bxY1 ⊢
            clear hgbxY1
            clear HBbxY0
            refine one_step (i := 0) (by kernel_rfl) rfl (fun K hK => ?_)
            go_simp
            refine hK.out _ _ (HSX.out _ (fun k h1 h2 => (HBbxY1.alloc HBbxY1.size _).block k h1)) (fun hHeld => ?_)
            clear hHeld hK K
            try simp only [Act.put, List.setIfInBounds_toArray, List.set_cons_zero, List.set_cons_succ]
            refine name_world (F := fun X => Below W9.heap.size W9 X ∧ X.ownsRow W9.heap.size 29 3 (.slice (some ⟨bxY1.heap.size, 0, none⟩) 0 0) 0 [] ∧ NBox X g7 #[.int .i64 nid, .string nlb, .slice nA q1 ncc] ∧ (Value.slice (some ⟨bxY1.heap.size, 0, none⟩) 0 0).ownBlock ≠ some g7) ⟨HBbxY1.alloc HBbxY1.size _, own_empty_N bxY1 _ HBbxY1.size, (heap_alloc_old _ _ (Array.getElem?_eq_some_iff.1 h7bxY1).1).trans h7bxY1, fun e => by have h : bxY1.heap.size = g7 := Option.some.inj e; have := (Array.getElem?_eq_some_iff.1 h7bxY1).1; omega⟩ (fun bxY2 hF => ?_)
            obtain ⟨HBbxY2, hEbxY2, h7bxY2, hnbxY2⟩ := hF
            have hHeld : (fun WW : World => WW.cell? ⟨br, 2, none⟩ = some (.slice VA n3 vc) ∧ NBox WW bn #[.int .i64 nid, .string nlb, .slice nA q1 ncc]) bxY2 := (HSX.out _ (fun k h1 h2 => HBbxY2.block k h1))
            obtain ⟨gE, hgbxY2⟩ : ∃ g, g = bxY1.heap.size := ⟨_, rfl⟩
            simp only [← hgbxY2] at hEbxY2 hnbxY2 ⊢
            clear hgbxY2
            clear HBbxY1
            clear h7bxY1
            refine one_step (i := 3) (by kernel_rfl) rfl (fun K hK => ?_)
            refine of_if (by rfl) ?_
            refine app_all_N (.tmp 57) (.tmp 59) rfl W9.heap.size _ rfl hEbxY2 VA ns n3 vc HN.out.2.2.1 rfl HVA.out (HREADN.out bxY2 HBbxY2) (by have := hN; omega) HBbxY2.size ?_
            intro v2 Z hT0 hb0 hg0
            have HBZ : Below W9.heap.size W9 Z := HBbxY2.trans hb0
            have h7Z : NBox Z g7 #[.int .i64 nid, .string nlb, .slice nA q1 ncc] := (hg0.block _ (Array.getElem?_eq_some_iff.1 h7bxY2).1 (fun e => hnbxY2 e.symm)).trans h7bxY2
            refine hK.out _ _ (HSX.out _ (fun k h1 h2 => HBZ.block k h1)) (fun hHeld => ?_)
            clear hHeld hK K
            try simp only [Act.put, List.setIfInBounds_toArray, List.set_cons_zero, List.set_cons_succ]
            refine name_world (F := fun X => Below W9.heap.size W9 X ∧ X.ownsRow W9.heap.size 29 3 v2 n3 (ns.flatMap cellsND) ∧ NBox X g7 #[.int .i64 nid, .string nlb, .slice nA q1 ncc]) ⟨HBZ, hT0, h7Z⟩ (fun bxY3 hF => ?_)
            obtain ⟨HBbxY3, hTbxY3, h7bxY3⟩ := hF
            have hHeld : (fun WW : World => WW.cell? ⟨br, 2, none⟩ = some (.slice VA n3 vc) ∧ NBox WW bn #[.int .i64 nid, .string nlb, .slice nA q1 ncc]) bxY3 := (HSX.out _ (fun k h1 h2 => HBbxY3.block k h1))
            clear HBbxY2
            clear hEbxY2 h7bxY2 hnbxY2
            clear hT0 hb0 hg0 HBZ h7Z
            refine one_step (i := 6) (by kernel_rfl) rfl (fun K hK => ?_)
            refine of_if (by rfl) ?_
            refine app_one_N (.tmp 60) (.tmp 62) rfl W9.heap.size _ _ _ rfl hTbxY3 g7 (⟨nid, nlb, nA, nqs, ncc⟩ : ND) rfl (by rw [← HEC.out]; exact h7bxY3) (by have := hN; omega) HBbxY3.size ?_
            intro v8 Z8 hT8 hb8 hg8
            have HB8 : Below W9.heap.size W9 Z8 := HBbxY3.trans hb8
            obtain ⟨A8, c8, rfl, hr8⟩ := read_more_N HN.out.2.2.1 hT8 (by have := hN; omega) (fun x hx => (HGN.out.1 x hx).below (below_then HB9.out HB8)) (HGN.out.2.below (below_then HB9.out HB8))
            clear hr8 hb8 hg8
            refine hK.out _ _ (HSX.out _ (fun k h1 h2 => HB8.block k h1)) (fun hHeld => ?_)
            clear hHeld hK K
            try simp only [Act.put, List.setIfInBounds_toArray, List.set_cons_zero, List.set_cons_succ]
            refine name_world (F := fun X => Below W9.heap.size W9 X ∧ X.ownsRow W9.heap.size 29 3 (.slice A8 (n3 + 1) c8) (n3 + 1) (ns.flatMap cellsND ++ cellsND (⟨nid, nlb, nA, nqs, ncc⟩ : ND))) ⟨HB8, hT8⟩ (fun bxX8 hF => ?_)
            obtain ⟨HBbxX8, hTbxX8⟩ := hF
            have hHeld : (fun WW : World => WW.cell? ⟨br, 2, none⟩ = some (.slice VA n3 vc) ∧ NBox WW bn #[.int .i64 nid, .string nlb, .slice nA q1 ncc]) bxX8 := (HSX.out _ (fun k h1 h2 => HBbxX8.block k h1))
            clear HB8 hT8 HBbxY3 hTbxY3 h7bxY3
            refine take_in (i := 7) (v := ?v7bxz6) rfl (by kernel_rfl) (by kernel_rfl) (by kernel_rfl) (fun _ _ _ h => h) (by rfl) ?hy7bxz6 (by assumption) ?_
            case hy7bxz6 => intro WW hSw; (try dsimp only at hSw); go_simp; try with_reducible rfl
            try simp only [Act.put, List.setIfInBounds_toArray, List.set_cons_zero, List.set_cons_succ]
            have hfz : bxX8.frozen? ⟨bm, 2, none⟩ = false := GBox.free (W := bxX8) (b := bm) ((HBbxX8.block _ (by have := HX9.out; omega)).trans HM9.out) 2
            have hcl := GBox.cells (W := bxX8) (b := bm) ((HBbxX8.block _ (by have := HX9.out; omega)).trans HM9.out) 2
            refine one_step (i := 8) (by kernel_rfl) rfl (fun K hK => ?_)
            go_simp
            refine hK.out _ _ (HSX.out _ (fun k h1 h2 => (heap_setCell_other _ _ _ _ h2).trans (HBbxX8.block k h1))) (fun hHeld => ?_)
            clear hHeld hK K
            try simp only [Act.put, List.setIfInBounds_toArray, List.set_cons_zero, List.set_cons_succ]
            refine wpAnyH_done (by kernel_rfl) ?_ _
            go_wp2
            go_meet
            case rel =>
              have hbY : Below W9.heap.size W9 _ := HBbxX8
              have hdx := HX9.out
              have hbw := below_set (below_then HB9.out HBbxX8) (p := ⟨bm, 2, none⟩) (by show w.heap.size ≤ bm; omega) (.slice A8 (n3 + 1) c8)
              obtain ⟨A9, c9, he9, hr9⟩ := read_more_N HN.out.2.2.1 (own_set hTbxX8 ⟨bm, 2, none⟩ (.slice A8 (n3 + 1) c8) (by show bm < W9.heap.size; omega)) (by have := hN; omega) (fun x hx => (HGN.out.1 x hx).below hbw) (HGN.out.2.below hbw)
              cases he9
              exact ⟨hbw, by have := HBbxX8.size; simp; omega, fun k h1 h2 => (heap_setCell_other _ _ _ _ h2).trans (HBbxX8.block k h1), A8, c8, GBox.put (W := bxX8) (b := bm) ((HBbxX8.block _ (by omega)).trans HM9.out) 2 _, hr9⟩
        clear HSX
        case rest =>
          obtain ⟨hbc, hsc, hkc, A9, c9, hmc, hrc⟩ := hcut
          have HB10 := Aside0.mk hbc
          have HE10 := Aside0.mk hrc
          have HT10 : Aside0 (PBox wc bt #[.int .i64 d1, .int .i64 (d2 : Int)]) := ⟨(hkc bt (by have := HX9.out; omega) (by have := HX9.out; omega)).trans HT9.out⟩
          have HR10 : Aside0 (GBox wc br #[.slice NA n1 nc, .slice EA n2 ec, .slice VA n3 vc, .slice UA n4 uc]) := ⟨(hkc br (by have := HX9.out; omega) (by have := HX9.out; omega)).trans HR9.out⟩
          have HX10 : Aside0 (w.heap.size ≤ bt ∧ bt < wc.heap.size ∧ br < bt) := ⟨by
            have h1 := HX9.out
            omega⟩
          obtain ⟨DS, hDS⟩ : ∃ DS, DS = checkR nts ets (ns ++ [(⟨nid, nlb, nA, nqs, ncc⟩ : ND)]) es := ⟨_, rfl⟩
          rw [← hDS] at HPN
          have HCK10 : Aside0 (∀ W, Below wc.heap.size wc W → Calls Try.prog 7 #[.agg #[.slice NA n1 nc, .slice EA n2 ec, .slice A9 (n3 + 1) c9, .slice UA n4 uc]] W fun e w' => e = .returned (.tuple #[.agg #[.int .i64 DS.1, .int .i64 (DS.2.1 : Int)], .int .i64 DS.2.2]) ∧ Below W.heap.size W w') := ⟨fun W h => by
            have hw := below_then HB10.out h
            have hl : (ns ++ [(⟨nid, nlb, nA, nqs, ncc⟩ : ND)]).length = n3 + 1 := by rw [List.length_append, HN.out.2.2.1]; rfl
            have hh := check_any nts ets (ns ++ [(⟨nid, nlb, nA, nqs, ncc⟩ : ND)]) es NA EA A9 UA nc ec c9 uc W (HG.out.nts.below hw) (HG.out.ets.below hw) (HE10.out.below h) (HG.out.es.below hw) (by have := hN; have := HN.out; omega) (by have := hN; have := HN.out; omega)
            rw [hl, ← HN.out.1, ← HN.out.2.1, ← HN.out.2.2.2.1, ← hDS] at hh
            exact hh⟩
          clear hDS
          obtain ⟨f1, f2, f3⟩ := DS
          simp only at HCK10
          have hck := HCK10.out wc (Below.refl _ _)
          have hmx := hmc.cells
          clear hbc hsc hmc hrc hkc HR9 HN9 HT9 HM9 HB9 HX9 HREADN HGN HEC
          go_upto_region 12 with (fail)
          go_wp2_with (go_at_call 7; go_loud (refine hck.mono ?_))
          first | (intro e Wd he hbd; subst he) | rintro e Wd ⟨rfl, hbd⟩
          have HTd : Aside0 (PBox Wd bt #[.int .i64 d1, .int .i64 (d2 : Int)]) := ⟨(hbd.block bt (by have := HX10.out; omega)).trans HT10.out⟩
          have HRd : Aside0 (GBox Wd br #[.slice NA n1 nc, .slice EA n2 ec, .slice VA n3 vc, .slice UA n4 uc]) := ⟨(hbd.block br (by have := HX10.out; omega)).trans HR10.out⟩
          have htf := HTd.out.free
          have htc := HTd.out.cells
          have HBd := Aside0.mk (below_then HB10.out hbd)
          clear hbd hck hmx HT10 HB10 HR10
          go_upto_region 13 with (fail)
          obtain ⟨We, hWe⟩ : ∃ We, We = ((Wd.setCell ⟨bt, 0, none⟩ (.int .i64 f1)).setCell ⟨bt, 1, none⟩ (.int .i64 (f2 : Int))) := ⟨_, rfl⟩
          rw [← hWe]
          have HTe : PBox We bt #[.int .i64 f1, .int .i64 (f2 : Int)] := by
            rw [hWe]
            exact (HTd.out.put 0 (.int .i64 f1)).put 1 (.int .i64 (f2 : Int))
          have HBe : Aside0 (Below w.heap.size w We) := ⟨by
            have hx := HX10.out.1
            rw [hWe]
            exact below_set (below_set HBd.out (p := ⟨bt, 0, none⟩) hx _) (p := ⟨bt, 1, none⟩) hx _⟩
          have hte := HTe.cells
          have hre : GBox We br #[.slice NA n1 nc, .slice EA n2 ec, .slice VA n3 vc, .slice UA n4 uc] := by
            have hx : br ≠ bt := by have := HX10.out; omega
            rw [hWe]
            exact (heap_setCell_other _ ⟨bt, 1, none⟩ _ _ hx).trans ((heap_setCell_other _ ⟨bt, 0, none⟩ _ _ hx).trans HRd.out)
          have hre := hre.cells
          clear htf htc hWe HTd HTe HBd
          have HQ2 : Aside0 (f3 = 0 ∨ ∃ er, (f1, f2, f3) = (3, n3, er)) := ⟨by
            rw [HN.out.2.2.1]
            exact HPN.out (by first | rfl | trivial)⟩
          by_cases hf3 : f3 = 0
          · subst hf3
            go_wp2
            go_ret
            exact ⟨rfl, HBe.out⟩
          · have hq : (f1, f2, f3) = (3, n3, f3) := by
              rcases HQ2.out with h | ⟨er, h⟩
              · exact absurd h hf3
              · cases h
                rfl
            simp only [Prod.mk.injEq] at hq
            obtain ⟨e1, e2, -⟩ := hq
            subst f1
            subst f2
            have hf3b : (f3 == 0) = false := by simp [hf3]
            go_wp2
            go_ret
            exact ⟨rfl, HBe.out⟩
      · have hq : (d1, d2, d3) = (4, n4, d3) := by
          rcases HQ.out with h | ⟨er, h⟩
          · exact absurd h hd3
          · cases h
            rfl
        simp only [Prod.mk.injEq] at hq
        obtain ⟨e1, e2, -⟩ := hq
        subst d1
        subst d2
        have hd3b : (d3 == 0) = false := by simp [hd3]
        go_upto_region 10 with (fail)
        clear hp8 ht8 hr8
        have hr8 := HR8.out.cells
        have hmf := HM8.out.free
        have hmc := HM8.out.cells
        go_upto_region 11 with (fail)
        obtain ⟨W9, hW9⟩ : ∃ W9, W9 = ((((W8.setCell ⟨bm, 0, none⟩ (.slice NA n1 nc)).setCell ⟨bm, 1, none⟩ (.slice EA n2 ec)).setCell ⟨bm, 2, none⟩ (.slice VA n3 vc)).setCell ⟨bm, 3, none⟩ (.slice UA n4 uc)) := ⟨_, rfl⟩
        rw [← hW9]
        have hk9 : ∀ k, k ≠ bm → W9.heap[k]? = W8.heap[k]? := fun k h => by
          rw [hW9, heap_setCell_other _ ⟨bm, 3, none⟩ _ _ h, heap_setCell_other _ ⟨bm, 2, none⟩ _ _ h, heap_setCell_other _ ⟨bm, 1, none⟩ _ _ h, heap_setCell_other _ ⟨bm, 0, none⟩ _ _ h]
        have HM9 : Aside0 (GBox W9 bm #[.slice NA n1 nc, .slice EA n2 ec, .slice VA n3 vc, .slice UA n4 uc]) := ⟨by
          rw [hW9]
          exact (((HM8.out.put 0 (.slice NA n1 nc)).put 1 (.slice EA n2 ec)).put 2 (.slice VA n3 vc)).put 3 (.slice UA n4 uc)⟩
        have hz9 : W9.heap.size = W8.heap.size := by rw [hW9]; simp
        have HB9 : Aside0 (Below w.heap.size w W9) := ⟨by
          have hx : w.heap.size ≤ bm := by have := HX8.out; omega
          rw [hW9]
          exact below_set (below_set (below_set (below_set HB8.out (p := ⟨bm, 0, none⟩) hx _) (p := ⟨bm, 1, none⟩) hx _) (p := ⟨bm, 2, none⟩) hx _) (p := ⟨bm, 3, none⟩) hx _⟩
        have HR9 : Aside0 (GBox W9 br #[.slice NA n1 nc, .slice EA n2 ec, .slice VA n3 vc, .slice UA n4 uc]) := ⟨(hk9 br (by have := HX8.out; omega)).trans HR8.out⟩
        have HN9 : Aside0 (NBox W9 bn #[.int .i64 nid, .string nlb, .slice nA q1 ncc]) := ⟨(hk9 bn (by have := HX8.out; omega)).trans HN8.out⟩
        have HT9 : Aside0 (PBox W9 bt #[.int .i64 4, .int .i64 (n4 : Int)]) := ⟨(hk9 bt (by have := HX8.out; omega)).trans HT8.out⟩
        have HX9 : Aside0 (bm < bt ∧ bt < W9.heap.size ∧ w.heap.size ≤ bm ∧ bm < W9.heap.size ∧ br < bm ∧ bn < bm) := ⟨by
          have h1 := HX8.out
          omega⟩
        clear hr8 hmf hmc hW9 hk9 hz9 HR8 HM8 HN8 HP8 HT8 HB8 HX8
        have HEC : Aside0 ((#[.int .i64 nid, .string nlb, .slice nA q1 ncc] : Array Value) = (cellsND (⟨nid, nlb, nA, nqs, ncc⟩ : ND)).toArray) := ⟨by rw [HN.out.2.2.2.2.1]; rfl⟩
        have HREADN : Aside0 (∀ X, Below W9.heap.size W9 X → ReadsN X VA ns) := ⟨fun X h => HG.out.ns.below (below_then HB9.out h)⟩
        have HGN : Aside0 ((∀ x ∈ ns, goodND w x) ∧ goodND w (⟨nid, nlb, nA, nqs, ncc⟩ : ND)) := ⟨ReadsG.all_N HG.out.ns, HNE.out.1⟩
        have HSX : Aside0 (∀ X : World, (∀ k, k < W9.heap.size → k ≠ bm → X.heap[k]? = W9.heap[k]?) → (fun WW : World => WW.cell? ⟨br, 2, none⟩ = some (.slice VA n3 vc) ∧ NBox WW bn #[.int .i64 nid, .string nlb, .slice nA q1 ncc]) X) := ⟨fun X h => ⟨(World.cell?_of_block (a := ⟨br, 2, none⟩) (h br (by have := HX9.out; omega) (by have := HX9.out; omega))).trans (HR9.out.cells 2), (h bn (by have := HX9.out; omega) (by have := HX9.out; omega)).trans HN9.out⟩⟩
        go_cut [] from 9999 (fun X => Below w.heap.size w X ∧ W9.heap.size ≤ X.heap.size ∧ (∀ k, k < W9.heap.size → k ≠ bm → X.heap[k]? = W9.heap[k]?) ∧ ∃ A8 c8, GBox X bm #[.slice NA n1 nc, .slice EA n2 ec, .slice A8 (n3 + 1) c8, .slice UA n4 uc] ∧ ReadsN X A8 (ns ++ [(⟨nid, nlb, nA, nqs, ncc⟩ : ND)]))
        case first =>
          refine wp_region_held_drew (S := (fun WW : World => WW.cell? ⟨br, 2, none⟩ = some (.slice VA n3 vc) ∧ NBox WW bn #[.int .i64 nid, .string nlb, .slice nA q1 ncc])) (by kernel_rfl) ?_ (fun hHeld => ?_)
          · exact HSX.out _ (fun k h1 h2 => rfl)
          refine take_in (i := 1) (v := ?v1byz1) rfl (by kernel_rfl) (by kernel_rfl) (by kernel_rfl) (fun _ _ _ h => h) (by rfl) ?hy1byz1 (by assumption) ?_
          case hy1byz1 => intro WW hSw; (try dsimp only at hSw); go_simp; try with_reducible rfl
          try simp only [Act.put, List.setIfInBounds_toArray, List.set_cons_zero, List.set_cons_succ]
          refine take_in (i := 2) (v := ?v2byz2) rfl (by kernel_rfl) (by kernel_rfl) (by kernel_rfl) (fun _ _ _ h => h) (by rfl) ?hy2byz2 (by assumption) ?_
          case hy2byz2 => intro WW hSw; (try dsimp only at hSw); go_simp; try with_reducible rfl
          try simp only [Act.put, List.setIfInBounds_toArray, List.set_cons_zero, List.set_cons_succ]
          refine take_in (i := 4) (v := ?v4byz3) rfl (by kernel_rfl) (by kernel_rfl) (by kernel_rfl) (fun _ _ _ h => h) (by rfl) ?hy4byz3 (by assumption) ?_
          case hy4byz3 => intro WW hSw; have h1 := hSw.2.cells; go_simp; try with_reducible rfl
          try simp only [Act.put, List.setIfInBounds_toArray, List.set_cons_zero, List.set_cons_succ]
          refine name_world (F := fun X => Below W9.heap.size W9 X) (by first | exact Below.refl _ _ | exact (Below.refl _ _).drew | exact (Below.refl _ _).drew.drew) (fun byY0 HBbyY0 => ?_)
          clear hHeld
          have hHeld : (fun WW : World => WW.cell? ⟨br, 2, none⟩ = some (.slice VA n3 vc) ∧ NBox WW bn #[.int .i64 nid, .string nlb, .slice nA q1 ncc]) byY0 := (HSX.out _ (fun k h1 h2 => HBbyY0.block k h1))
          refine two_step (i := 0) (j := 5) (by kernel_rfl) rfl rfl (fun K hK => ?_) (fun K hK => ?_)
          · go_simp
            refine hK.out _ _ (HSX.out _ (fun k h1 h2 => (HBbyY0.alloc HBbyY0.size _).block k h1)) (fun hHeld => ?_)
            clear hHeld hK K
            try simp only [Act.put, List.setIfInBounds_toArray, List.set_cons_zero, List.set_cons_succ]
            refine name_world (F := fun X => Below W9.heap.size W9 X ∧ X.ownsRow W9.heap.size 29 3 (.slice (some ⟨byY0.heap.size, 0, none⟩) 0 0) 0 []) ⟨HBbyY0.alloc HBbyY0.size _, own_empty_N byY0 _ HBbyY0.size⟩ (fun byY1 hF => ?_)
            obtain ⟨HBbyY1, hEbyY1⟩ := hF
            have hHeld : (fun WW : World => WW.cell? ⟨br, 2, none⟩ = some (.slice VA n3 vc) ∧ NBox WW bn #[.int .i64 nid, .string nlb, .slice nA q1 ncc]) byY1 := (HSX.out _ (fun k h1 h2 => HBbyY1.block k h1))
            obtain ⟨gE, hgbyY1⟩ : ∃ g, g = byY0.heap.size := ⟨_, rfl⟩
            simp only [← hgbyY1] at hEbyY1 ⊢
            clear hgbyY1
            clear HBbyY0
            refine two_step (i := 3) (j := 5) (by kernel_rfl) rfl rfl (fun K hK => ?_) (fun K hK => ?_)
            · refine of_if (by rfl) ?_
              refine app_all_N (.tmp 57) (.tmp 59) rfl W9.heap.size _ rfl hEbyY1 VA ns n3 vc HN.out.2.2.1 rfl HVA.out (HREADN.out byY1 HBbyY1) (by have := hN; omega) HBbyY1.size ?_
              intro v2 Z hT0 hb0 hg0
              have HBZ : Below W9.heap.size W9 Z := HBbyY1.trans hb0
              refine hK.out _ _ (HSX.out _ (fun k h1 h2 => HBZ.block k h1)) (fun hHeld => ?_)
              clear hHeld hK K
              try simp only [Act.put, List.setIfInBounds_toArray, List.set_cons_zero, List.set_cons_succ]
              refine name_world (F := fun X => Below W9.heap.size W9 X ∧ X.ownsRow W9.heap.size 29 3 v2 n3 (ns.flatMap cellsND)) ⟨HBZ, hT0⟩ (fun byY2 hF => ?_)
              obtain ⟨HBbyY2, hTbyY2⟩ := hF
              have hHeld : (fun WW : World => WW.cell? ⟨br, 2, none⟩ = some (.slice VA n3 vc) ∧ NBox WW bn #[.int .i64 nid, .string nlb, .slice nA q1 ncc]) byY2 := (HSX.out _ (fun k h1 h2 => HBbyY2.block k h1))
              clear HBbyY1
              clear hEbyY1
              clear hT0 hb0 hg0 HBZ
              refine one_step (i := 5) (by kernel_rfl) rfl (fun K hK => ?_)
              go_simp
              refine hK.out _ _ (HSX.out _ (fun k h1 h2 => (HBbyY2.alloc HBbyY2.size _).block k h1)) (fun hHeld => ?_)
              clear hHeld hK K
              try simp only [Act.put, List.setIfInBounds_toArray, List.set_cons_zero, List.set_cons_succ]
              refine name_world (F := fun X => Below W9.heap.size W9 X ∧ NBox X byY2.heap.size #[.int .i64 nid, .string nlb, .slice nA q1 ncc] ∧ X.ownsRow W9.heap.size 29 3 v2 n3 (ns.flatMap cellsND)) ⟨HBbyY2.alloc HBbyY2.size _, heap_alloc_new byY2 _, hTbyY2.alloc _⟩ (fun byY3 hF => ?_)
              obtain ⟨HBbyY3, h7byY3, hTbyY3⟩ := hF
              have hHeld : (fun WW : World => WW.cell? ⟨br, 2, none⟩ = some (.slice VA n3 vc) ∧ NBox WW bn #[.int .i64 nid, .string nlb, .slice nA q1 ncc]) byY3 := (HSX.out _ (fun k h1 h2 => HBbyY3.block k h1))
              obtain ⟨g7, hgbyY3⟩ : ∃ g, g = byY2.heap.size := ⟨_, rfl⟩
              simp only [← hgbyY3] at h7byY3 ⊢
              clear hgbyY3
              clear HBbyY2
              clear hTbyY2
              refine one_step (i := 6) (by kernel_rfl) rfl (fun K hK => ?_)
              refine of_if (by rfl) ?_
              refine app_one_N (.tmp 60) (.tmp 62) rfl W9.heap.size _ _ _ rfl hTbyY3 g7 (⟨nid, nlb, nA, nqs, ncc⟩ : ND) rfl (by rw [← HEC.out]; exact h7byY3) (by have := hN; omega) HBbyY3.size ?_
              intro v8 Z8 hT8 hb8 hg8
              have HB8 : Below W9.heap.size W9 Z8 := HBbyY3.trans hb8
              obtain ⟨A8, c8, rfl, hr8⟩ := read_more_N HN.out.2.2.1 hT8 (by have := hN; omega) (fun x hx => (HGN.out.1 x hx).below (below_then HB9.out HB8)) (HGN.out.2.below (below_then HB9.out HB8))
              clear hr8 hb8 hg8
              refine hK.out _ _ (HSX.out _ (fun k h1 h2 => HB8.block k h1)) (fun hHeld => ?_)
              clear hHeld hK K
              try simp only [Act.put, List.setIfInBounds_toArray, List.set_cons_zero, List.set_cons_succ]
              refine name_world (F := fun X => Below W9.heap.size W9 X ∧ X.ownsRow W9.heap.size 29 3 (.slice A8 (n3 + 1) c8) (n3 + 1) (ns.flatMap cellsND ++ cellsND (⟨nid, nlb, nA, nqs, ncc⟩ : ND))) ⟨HB8, hT8⟩ (fun byX8 hF => ?_)
              obtain ⟨HBbyX8, hTbyX8⟩ := hF
              have hHeld : (fun WW : World => WW.cell? ⟨br, 2, none⟩ = some (.slice VA n3 vc) ∧ NBox WW bn #[.int .i64 nid, .string nlb, .slice nA q1 ncc]) byX8 := (HSX.out _ (fun k h1 h2 => HBbyX8.block k h1))
              clear HB8 hT8 HBbyY3 hTbyY3 h7byY3
              refine take_in (i := 7) (v := ?v7byz4) rfl (by kernel_rfl) (by kernel_rfl) (by kernel_rfl) (fun _ _ _ h => h) (by rfl) ?hy7byz4 (by assumption) ?_
              case hy7byz4 => intro WW hSw; (try dsimp only at hSw); go_simp; try with_reducible rfl
              try simp only [Act.put, List.setIfInBounds_toArray, List.set_cons_zero, List.set_cons_succ]
              have hfz : byX8.frozen? ⟨bm, 2, none⟩ = false := GBox.free (W := byX8) (b := bm) ((HBbyX8.block _ (by have := HX9.out; omega)).trans HM9.out) 2
              have hcl := GBox.cells (W := byX8) (b := bm) ((HBbyX8.block _ (by have := HX9.out; omega)).trans HM9.out) 2
              refine one_step (i := 8) (by kernel_rfl) rfl (fun K hK => ?_)
              go_simp
              refine hK.out _ _ (HSX.out _ (fun k h1 h2 => (heap_setCell_other _ _ _ _ h2).trans (HBbyX8.block k h1))) (fun hHeld => ?_)
              clear hHeld hK K
              try simp only [Act.put, List.setIfInBounds_toArray, List.set_cons_zero, List.set_cons_succ]
              refine wpAnyH_done (by kernel_rfl) ?_ _
              go_wp2
              go_meet
              case rel =>
                have hbY : Below W9.heap.size W9 _ := HBbyX8
                have hdx := HX9.out
                have hbw := below_set (below_then HB9.out HBbyX8) (p := ⟨bm, 2, none⟩) (by show w.heap.size ≤ bm; omega) (.slice A8 (n3 + 1) c8)
                obtain ⟨A9, c9, he9, hr9⟩ := read_more_N HN.out.2.2.1 (own_set hTbyX8 ⟨bm, 2, none⟩ (.slice A8 (n3 + 1) c8) (by show bm < W9.heap.size; omega)) (by have := hN; omega) (fun x hx => (HGN.out.1 x hx).below hbw) (HGN.out.2.below hbw)
                cases he9
                exact ⟨hbw, by have := HBbyX8.size; simp; omega, fun k h1 h2 => (heap_setCell_other _ _ _ _ h2).trans (HBbyX8.block k h1), A8, c8, GBox.put (W := byX8) (b := bm) ((HBbyX8.block _ (by omega)).trans HM9.out) 2 _, hr9⟩
            · go_simp
              refine hK.out _ _ (HSX.out _ (fun k h1 h2 => (HBbyY1.alloc HBbyY1.size _).block k h1)) (fun hHeld => ?_)
              clear hHeld hK K
              try simp only [Act.put, List.setIfInBounds_toArray, List.set_cons_zero, List.set_cons_succ]
              refine name_world (F := fun X => Below W9.heap.size W9 X ∧ NBox X byY1.heap.size #[.int .i64 nid, .string nlb, .slice nA q1 ncc] ∧ X.ownsRow W9.heap.size 29 3 (.slice (some ⟨gE, 0, none⟩) 0 0) 0 [] ∧ (Value.slice (some ⟨gE, 0, none⟩) 0 0).ownBlock ≠ some byY1.heap.size) ⟨HBbyY1.alloc HBbyY1.size _, heap_alloc_new byY1 _, hEbyY1.alloc _, fun e => by have := (hEbyY1.lt _ e).2; omega⟩ (fun byY2 hF => ?_)
              obtain ⟨HBbyY2, h7byY2, hEbyY2, hnbyY2⟩ := hF
              have hHeld : (fun WW : World => WW.cell? ⟨br, 2, none⟩ = some (.slice VA n3 vc) ∧ NBox WW bn #[.int .i64 nid, .string nlb, .slice nA q1 ncc]) byY2 := (HSX.out _ (fun k h1 h2 => HBbyY2.block k h1))
              obtain ⟨g7, hgbyY2⟩ : ∃ g, g = byY1.heap.size := ⟨_, rfl⟩
              simp only [← hgbyY2] at h7byY2 hnbyY2 ⊢
              clear hgbyY2
              clear HBbyY1
              clear hEbyY1
              refine one_step (i := 3) (by kernel_rfl) rfl (fun K hK => ?_)
              refine of_if (by rfl) ?_
              refine app_all_N (.tmp 57) (.tmp 59) rfl W9.heap.size _ rfl hEbyY2 VA ns n3 vc HN.out.2.2.1 rfl HVA.out (HREADN.out byY2 HBbyY2) (by have := hN; omega) HBbyY2.size ?_
              intro v2 Z hT0 hb0 hg0
              have HBZ : Below W9.heap.size W9 Z := HBbyY2.trans hb0
              have h7Z : NBox Z g7 #[.int .i64 nid, .string nlb, .slice nA q1 ncc] := (hg0.block _ (Array.getElem?_eq_some_iff.1 h7byY2).1 (fun e => hnbyY2 e.symm)).trans h7byY2
              refine hK.out _ _ (HSX.out _ (fun k h1 h2 => HBZ.block k h1)) (fun hHeld => ?_)
              clear hHeld hK K
              try simp only [Act.put, List.setIfInBounds_toArray, List.set_cons_zero, List.set_cons_succ]
              refine name_world (F := fun X => Below W9.heap.size W9 X ∧ X.ownsRow W9.heap.size 29 3 v2 n3 (ns.flatMap cellsND) ∧ NBox X g7 #[.int .i64 nid, .string nlb, .slice nA q1 ncc]) ⟨HBZ, hT0, h7Z⟩ (fun byY3 hF => ?_)
              obtain ⟨HBbyY3, hTbyY3, h7byY3⟩ := hF
              have hHeld : (fun WW : World => WW.cell? ⟨br, 2, none⟩ = some (.slice VA n3 vc) ∧ NBox WW bn #[.int .i64 nid, .string nlb, .slice nA q1 ncc]) byY3 := (HSX.out _ (fun k h1 h2 => HBbyY3.block k h1))
              clear HBbyY2
              clear hEbyY2 h7byY2 hnbyY2
              clear hT0 hb0 hg0 HBZ h7Z
              refine one_step (i := 6) (by kernel_rfl) rfl (fun K hK => ?_)
              refine of_if (by rfl) ?_
              refine app_one_N (.tmp 60) (.tmp 62) rfl W9.heap.size _ _ _ rfl hTbyY3 g7 (⟨nid, nlb, nA, nqs, ncc⟩ : ND) rfl (by rw [← HEC.out]; exact h7byY3) (by have := hN; omega) HBbyY3.size ?_
              intro v8 Z8 hT8 hb8 hg8
              have HB8 : Below W9.heap.size W9 Z8 := HBbyY3.trans hb8
              obtain ⟨A8, c8, rfl, hr8⟩ := read_more_N HN.out.2.2.1 hT8 (by have := hN; omega) (fun x hx => (HGN.out.1 x hx).below (below_then HB9.out HB8)) (HGN.out.2.below (below_then HB9.out HB8))
              clear hr8 hb8 hg8
              refine hK.out _ _ (HSX.out _ (fun k h1 h2 => HB8.block k h1)) (fun hHeld => ?_)
              clear hHeld hK K
              try simp only [Act.put, List.setIfInBounds_toArray, List.set_cons_zero, List.set_cons_succ]
              refine name_world (F := fun X => Below W9.heap.size W9 X ∧ X.ownsRow W9.heap.size 29 3 (.slice A8 (n3 + 1) c8) (n3 + 1) (ns.flatMap cellsND ++ cellsND (⟨nid, nlb, nA, nqs, ncc⟩ : ND))) ⟨HB8, hT8⟩ (fun byX8 hF => ?_)
              obtain ⟨HBbyX8, hTbyX8⟩ := hF
              have hHeld : (fun WW : World => WW.cell? ⟨br, 2, none⟩ = some (.slice VA n3 vc) ∧ NBox WW bn #[.int .i64 nid, .string nlb, .slice nA q1 ncc]) byX8 := (HSX.out _ (fun k h1 h2 => HBbyX8.block k h1))
              clear HB8 hT8 HBbyY3 hTbyY3 h7byY3
              refine take_in (i := 7) (v := ?v7byz5) rfl (by kernel_rfl) (by kernel_rfl) (by kernel_rfl) (fun _ _ _ h => h) (by rfl) ?hy7byz5 (by assumption) ?_
              case hy7byz5 => intro WW hSw; (try dsimp only at hSw); go_simp; try with_reducible rfl
              try simp only [Act.put, List.setIfInBounds_toArray, List.set_cons_zero, List.set_cons_succ]
              have hfz : byX8.frozen? ⟨bm, 2, none⟩ = false := GBox.free (W := byX8) (b := bm) ((HBbyX8.block _ (by have := HX9.out; omega)).trans HM9.out) 2
              have hcl := GBox.cells (W := byX8) (b := bm) ((HBbyX8.block _ (by have := HX9.out; omega)).trans HM9.out) 2
              refine one_step (i := 8) (by kernel_rfl) rfl (fun K hK => ?_)
              go_simp
              refine hK.out _ _ (HSX.out _ (fun k h1 h2 => (heap_setCell_other _ _ _ _ h2).trans (HBbyX8.block k h1))) (fun hHeld => ?_)
              clear hHeld hK K
              try simp only [Act.put, List.setIfInBounds_toArray, List.set_cons_zero, List.set_cons_succ]
              refine wpAnyH_done (by kernel_rfl) ?_ _
              go_wp2
              go_meet
              case rel =>
                have hbY : Below W9.heap.size W9 _ := HBbyX8
                have hdx := HX9.out
                have hbw := below_set (below_then HB9.out HBbyX8) (p := ⟨bm, 2, none⟩) (by show w.heap.size ≤ bm; omega) (.slice A8 (n3 + 1) c8)
                obtain ⟨A9, c9, he9, hr9⟩ := read_more_N HN.out.2.2.1 (own_set hTbyX8 ⟨bm, 2, none⟩ (.slice A8 (n3 + 1) c8) (by show bm < W9.heap.size; omega)) (by have := hN; omega) (fun x hx => (HGN.out.1 x hx).below hbw) (HGN.out.2.below hbw)
                cases he9
                exact ⟨hbw, by have := HBbyX8.size; simp; omega, fun k h1 h2 => (heap_setCell_other _ _ _ _ h2).trans (HBbyX8.block k h1), A8, c8, GBox.put (W := byX8) (b := bm) ((HBbyX8.block _ (by omega)).trans HM9.out) 2 _, hr9⟩
          · go_simp
            refine hK.out _ _ (HSX.out _ (fun k h1 h2 => (HBbyY0.alloc HBbyY0.size _).block k h1)) (fun hHeld => ?_)
            clear hHeld hK K
            try simp only [Act.put, List.setIfInBounds_toArray, List.set_cons_zero, List.set_cons_succ]
            refine name_world (F := fun X => Below W9.heap.size W9 X ∧ NBox X byY0.heap.size #[.int .i64 nid, .string nlb, .slice nA q1 ncc]) ⟨HBbyY0.alloc HBbyY0.size _, heap_alloc_new byY0 _⟩ (fun byY1 hF => ?_)
            obtain ⟨HBbyY1, h7byY1⟩ := hF
            have hHeld : (fun WW : World => WW.cell? ⟨br, 2, none⟩ = some (.slice VA n3 vc) ∧ NBox WW bn #[.int .i64 nid, .string nlb, .slice nA q1 ncc]) byY1 := (HSX.out _ (fun k h1 h2 => HBbyY1.block k h1))
            obtain ⟨g7, hgbyY1⟩ : ∃ g, g = byY0.heap.size := ⟨_, rfl⟩
            simp only [← hgbyY1] at h7byY1 ⊢
            clear hgbyY1
            clear HBbyY0
            refine one_step (i := 0) (by kernel_rfl) rfl (fun K hK => ?_)
            go_simp
            refine hK.out _ _ (HSX.out _ (fun k h1 h2 => (HBbyY1.alloc HBbyY1.size _).block k h1)) (fun hHeld => ?_)
            clear hHeld hK K
            try simp only [Act.put, List.setIfInBounds_toArray, List.set_cons_zero, List.set_cons_succ]
            refine name_world (F := fun X => Below W9.heap.size W9 X ∧ X.ownsRow W9.heap.size 29 3 (.slice (some ⟨byY1.heap.size, 0, none⟩) 0 0) 0 [] ∧ NBox X g7 #[.int .i64 nid, .string nlb, .slice nA q1 ncc] ∧ (Value.slice (some ⟨byY1.heap.size, 0, none⟩) 0 0).ownBlock ≠ some g7) ⟨HBbyY1.alloc HBbyY1.size _, own_empty_N byY1 _ HBbyY1.size, (heap_alloc_old _ _ (Array.getElem?_eq_some_iff.1 h7byY1).1).trans h7byY1, fun e => by have h : byY1.heap.size = g7 := Option.some.inj e; have := (Array.getElem?_eq_some_iff.1 h7byY1).1; omega⟩ (fun byY2 hF => ?_)
            obtain ⟨HBbyY2, hEbyY2, h7byY2, hnbyY2⟩ := hF
            have hHeld : (fun WW : World => WW.cell? ⟨br, 2, none⟩ = some (.slice VA n3 vc) ∧ NBox WW bn #[.int .i64 nid, .string nlb, .slice nA q1 ncc]) byY2 := (HSX.out _ (fun k h1 h2 => HBbyY2.block k h1))
            obtain ⟨gE, hgbyY2⟩ : ∃ g, g = byY1.heap.size := ⟨_, rfl⟩
            simp only [← hgbyY2] at hEbyY2 hnbyY2 ⊢
            clear hgbyY2
            clear HBbyY1
            clear h7byY1
            refine one_step (i := 3) (by kernel_rfl) rfl (fun K hK => ?_)
            refine of_if (by rfl) ?_
            refine app_all_N (.tmp 57) (.tmp 59) rfl W9.heap.size _ rfl hEbyY2 VA ns n3 vc HN.out.2.2.1 rfl HVA.out (HREADN.out byY2 HBbyY2) (by have := hN; omega) HBbyY2.size ?_
            intro v2 Z hT0 hb0 hg0
            have HBZ : Below W9.heap.size W9 Z := HBbyY2.trans hb0
            have h7Z : NBox Z g7 #[.int .i64 nid, .string nlb, .slice nA q1 ncc] := (hg0.block _ (Array.getElem?_eq_some_iff.1 h7byY2).1 (fun e => hnbyY2 e.symm)).trans h7byY2
            refine hK.out _ _ (HSX.out _ (fun k h1 h2 => HBZ.block k h1)) (fun hHeld => ?_)
            clear hHeld hK K
            try simp only [Act.put, List.setIfInBounds_toArray, List.set_cons_zero, List.set_cons_succ]
            refine name_world (F := fun X => Below W9.heap.size W9 X ∧ X.ownsRow W9.heap.size 29 3 v2 n3 (ns.flatMap cellsND) ∧ NBox X g7 #[.int .i64 nid, .string nlb, .slice nA q1 ncc]) ⟨HBZ, hT0, h7Z⟩ (fun byY3 hF => ?_)
            obtain ⟨HBbyY3, hTbyY3, h7byY3⟩ := hF
            have hHeld : (fun WW : World => WW.cell? ⟨br, 2, none⟩ = some (.slice VA n3 vc) ∧ NBox WW bn #[.int .i64 nid, .string nlb, .slice nA q1 ncc]) byY3 := (HSX.out _ (fun k h1 h2 => HBbyY3.block k h1))
            clear HBbyY2
            clear hEbyY2 h7byY2 hnbyY2
            clear hT0 hb0 hg0 HBZ h7Z
            refine one_step (i := 6) (by kernel_rfl) rfl (fun K hK => ?_)
            refine of_if (by rfl) ?_
            refine app_one_N (.tmp 60) (.tmp 62) rfl W9.heap.size _ _ _ rfl hTbyY3 g7 (⟨nid, nlb, nA, nqs, ncc⟩ : ND) rfl (by rw [← HEC.out]; exact h7byY3) (by have := hN; omega) HBbyY3.size ?_
            intro v8 Z8 hT8 hb8 hg8
            have HB8 : Below W9.heap.size W9 Z8 := HBbyY3.trans hb8
            obtain ⟨A8, c8, rfl, hr8⟩ := read_more_N HN.out.2.2.1 hT8 (by have := hN; omega) (fun x hx => (HGN.out.1 x hx).below (below_then HB9.out HB8)) (HGN.out.2.below (below_then HB9.out HB8))
            clear hr8 hb8 hg8
            refine hK.out _ _ (HSX.out _ (fun k h1 h2 => HB8.block k h1)) (fun hHeld => ?_)
            clear hHeld hK K
            try simp only [Act.put, List.setIfInBounds_toArray, List.set_cons_zero, List.set_cons_succ]
            refine name_world (F := fun X => Below W9.heap.size W9 X ∧ X.ownsRow W9.heap.size 29 3 (.slice A8 (n3 + 1) c8) (n3 + 1) (ns.flatMap cellsND ++ cellsND (⟨nid, nlb, nA, nqs, ncc⟩ : ND))) ⟨HB8, hT8⟩ (fun byX8 hF => ?_)
            obtain ⟨HBbyX8, hTbyX8⟩ := hF
            have hHeld : (fun WW : World => WW.cell? ⟨br, 2, none⟩ = some (.slice VA n3 vc) ∧ NBox WW bn #[.int .i64 nid, .string nlb, .slice nA q1 ncc]) byX8 := (HSX.out _ (fun k h1 h2 => HBbyX8.block k h1))
            clear HB8 hT8 HBbyY3 hTbyY3 h7byY3
            refine take_in (i := 7) (v := ?v7byz6) rfl (by kernel_rfl) (by kernel_rfl) (by kernel_rfl) (fun _ _ _ h => h) (by rfl) ?hy7byz6 (by assumption) ?_
            case hy7byz6 => intro WW hSw; (try dsimp only at hSw); go_simp; try with_reducible rfl
            try simp only [Act.put, List.setIfInBounds_toArray, List.set_cons_zero, List.set_cons_succ]
            have hfz : byX8.frozen? ⟨bm, 2, none⟩ = false := GBox.free (W := byX8) (b := bm) ((HBbyX8.block _ (by have := HX9.out; omega)).trans HM9.out) 2
            have hcl := GBox.cells (W := byX8) (b := bm) ((HBbyX8.block _ (by have := HX9.out; omega)).trans HM9.out) 2
            refine one_step (i := 8) (by kernel_rfl) rfl (fun K hK => ?_)
            go_simp
            refine hK.out _ _ (HSX.out _ (fun k h1 h2 => (heap_setCell_other _ _ _ _ h2).trans (HBbyX8.block k h1))) (fun hHeld => ?_)
            clear hHeld hK K
            try simp only [Act.put, List.setIfInBounds_toArray, List.set_cons_zero, List.set_cons_succ]
            refine wpAnyH_done (by kernel_rfl) ?_ _
            go_wp2
            go_meet
            case rel =>
              have hbY : Below W9.heap.size W9 _ := HBbyX8
              have hdx := HX9.out
              have hbw := below_set (below_then HB9.out HBbyX8) (p := ⟨bm, 2, none⟩) (by show w.heap.size ≤ bm; omega) (.slice A8 (n3 + 1) c8)
              obtain ⟨A9, c9, he9, hr9⟩ := read_more_N HN.out.2.2.1 (own_set hTbyX8 ⟨bm, 2, none⟩ (.slice A8 (n3 + 1) c8) (by show bm < W9.heap.size; omega)) (by have := hN; omega) (fun x hx => (HGN.out.1 x hx).below hbw) (HGN.out.2.below hbw)
              cases he9
              exact ⟨hbw, by have := HBbyX8.size; simp; omega, fun k h1 h2 => (heap_setCell_other _ _ _ _ h2).trans (HBbyX8.block k h1), A8, c8, GBox.put (W := byX8) (b := bm) ((HBbyX8.block _ (by omega)).trans HM9.out) 2 _, hr9⟩
        clear HSX
        case rest =>
          obtain ⟨hbc, hsc, hkc, A9, c9, hmc, hrc⟩ := hcut
          have HB10 := Aside0.mk hbc
          have HE10 := Aside0.mk hrc
          have HT10 : Aside0 (PBox wc bt #[.int .i64 4, .int .i64 (n4 : Int)]) := ⟨(hkc bt (by have := HX9.out; omega) (by have := HX9.out; omega)).trans HT9.out⟩
          have HR10 : Aside0 (GBox wc br #[.slice NA n1 nc, .slice EA n2 ec, .slice VA n3 vc, .slice UA n4 uc]) := ⟨(hkc br (by have := HX9.out; omega) (by have := HX9.out; omega)).trans HR9.out⟩
          have HX10 : Aside0 (w.heap.size ≤ bt ∧ bt < wc.heap.size ∧ br < bt) := ⟨by
            have h1 := HX9.out
            omega⟩
          obtain ⟨DS, hDS⟩ : ∃ DS, DS = checkR nts ets (ns ++ [(⟨nid, nlb, nA, nqs, ncc⟩ : ND)]) es := ⟨_, rfl⟩
          rw [← hDS] at HPN
          have HCK10 : Aside0 (∀ W, Below wc.heap.size wc W → Calls Try.prog 7 #[.agg #[.slice NA n1 nc, .slice EA n2 ec, .slice A9 (n3 + 1) c9, .slice UA n4 uc]] W fun e w' => e = .returned (.tuple #[.agg #[.int .i64 DS.1, .int .i64 (DS.2.1 : Int)], .int .i64 DS.2.2]) ∧ Below W.heap.size W w') := ⟨fun W h => by
            have hw := below_then HB10.out h
            have hl : (ns ++ [(⟨nid, nlb, nA, nqs, ncc⟩ : ND)]).length = n3 + 1 := by rw [List.length_append, HN.out.2.2.1]; rfl
            have hh := check_any nts ets (ns ++ [(⟨nid, nlb, nA, nqs, ncc⟩ : ND)]) es NA EA A9 UA nc ec c9 uc W (HG.out.nts.below hw) (HG.out.ets.below hw) (HE10.out.below h) (HG.out.es.below hw) (by have := hN; have := HN.out; omega) (by have := hN; have := HN.out; omega)
            rw [hl, ← HN.out.1, ← HN.out.2.1, ← HN.out.2.2.2.1, ← hDS] at hh
            exact hh⟩
          clear hDS
          obtain ⟨f1, f2, f3⟩ := DS
          simp only at HCK10
          have hck := HCK10.out wc (Below.refl _ _)
          have hmx := hmc.cells
          clear hbc hsc hmc hrc hkc HR9 HN9 HT9 HM9 HB9 HX9 HREADN HGN HEC
          go_upto_region 12 with (fail)
          go_wp2_with (go_at_call 7; go_loud (refine hck.mono ?_))
          first | (intro e Wd he hbd; subst he) | rintro e Wd ⟨rfl, hbd⟩
          have HTd : Aside0 (PBox Wd bt #[.int .i64 4, .int .i64 (n4 : Int)]) := ⟨(hbd.block bt (by have := HX10.out; omega)).trans HT10.out⟩
          have HRd : Aside0 (GBox Wd br #[.slice NA n1 nc, .slice EA n2 ec, .slice VA n3 vc, .slice UA n4 uc]) := ⟨(hbd.block br (by have := HX10.out; omega)).trans HR10.out⟩
          have htf := HTd.out.free
          have htc := HTd.out.cells
          have HBd := Aside0.mk (below_then HB10.out hbd)
          clear hbd hck hmx HT10 HB10 HR10
          go_upto_region 13 with (fail)
          obtain ⟨We, hWe⟩ : ∃ We, We = ((Wd.setCell ⟨bt, 0, none⟩ (.int .i64 f1)).setCell ⟨bt, 1, none⟩ (.int .i64 (f2 : Int))) := ⟨_, rfl⟩
          rw [← hWe]
          have HTe : PBox We bt #[.int .i64 f1, .int .i64 (f2 : Int)] := by
            rw [hWe]
            exact (HTd.out.put 0 (.int .i64 f1)).put 1 (.int .i64 (f2 : Int))
          have HBe : Aside0 (Below w.heap.size w We) := ⟨by
            have hx := HX10.out.1
            rw [hWe]
            exact below_set (below_set HBd.out (p := ⟨bt, 0, none⟩) hx _) (p := ⟨bt, 1, none⟩) hx _⟩
          have hte := HTe.cells
          have hre : GBox We br #[.slice NA n1 nc, .slice EA n2 ec, .slice VA n3 vc, .slice UA n4 uc] := by
            have hx : br ≠ bt := by have := HX10.out; omega
            rw [hWe]
            exact (heap_setCell_other _ ⟨bt, 1, none⟩ _ _ hx).trans ((heap_setCell_other _ ⟨bt, 0, none⟩ _ _ hx).trans HRd.out)
          have hre := hre.cells
          clear htf htc hWe HTd HTe HBd
          have HQ2 : Aside0 (f3 = 0 ∨ ∃ er, (f1, f2, f3) = (3, n3, er)) := ⟨by
            rw [HN.out.2.2.1]
            exact HPN.out (by first | rfl | trivial)⟩
          by_cases hf3 : f3 = 0
          · subst hf3
            go_wp2
            go_ret
            exact ⟨rfl, HBe.out⟩
          · have hq : (f1, f2, f3) = (3, n3, f3) := by
              rcases HQ2.out with h | ⟨er, h⟩
              · exact absurd h hf3
              · cases h
                rfl
            simp only [Prod.mk.injEq] at hq
            obtain ⟨e1, e2, -⟩ := hq
            subst f1
            subst f2
            have hf3b : (f3 == 0) = false := by simp [hf3]
            go_wp2
            go_ret
            exact ⟨rfl, HBe.out⟩
    · have hq := HPE.out.1 hc3
      simp only [Prod.mk.injEq] at hq
      obtain ⟨rfl, rfl, rfl⟩ := hq
      have hc3b : (d3 == 0) = false := by simp [hc3]
      have hp8 := HP8.out.cells
      have ht8 := HT8.out.cells
      go_wp2
      go_ret
      exact ⟨rfl, HB8.out⟩
end Go.Proofs.Ytffifhinhemkdaa
