/- The walk of RawgraphChecks. -/
import Derived.Test.YtffifhinhemkdaaDoorRkG
import Derived.Test.YtffifhinhemkdaaDoorRgSame
import Derived.Test.YtffifhinhemkdaaDoorRgHd3
set_option linter.unusedVariables false
set_option linter.unusedSimpArgs false
namespace Go.Proofs.YtffifhinhemkdaaDoor
open Go.RowKit Go.Maps

def GD.none_ : GD := ⟨none, [], 0, none, [], 0, none, [], 0, none, [], 0⟩
theorem readsT_none (W : World) : ReadsT W none [] := by
  constructor <;> first | (intro j hj; exact absurd hj (by simp)) | (intro x hx; cases hx) | simp
theorem readsG_none (W : World) : ReadsG W GD.none_ := ⟨readsT_none W, readsT_none W, ReadsN.none_ none, ReadsE.none_ none⟩
def PairOk (g a : GD) : Prop := ((checkR g.nts g.ets g.ns g.es).2.2 = 0 ∧ Ord g a) ∨ (¬ (checkR g.nts g.ets g.ns g.es).2.2 = 0 ∧ a = GD.none_)
theorem sorted_un (g : GD) (W : World) (hg : ReadsG W g) (hN : g.nts.length ≤ 4000000000000 ∧ g.ets.length ≤ 4000000000000 ∧ g.ns.length ≤ 2932031007401 ∧ g.es.length ≤ 2199023255551) :
    Calls Tryd.prog 10 #[g.val] W fun e w' => ∃ a : GD, e = .returned (.tuple #[a.val, .int .i64 (checkR g.nts g.ets g.ns g.es).2.2]) ∧ PairOk g a ∧ ReadsG w' a ∧ Below W.heap.size W w' := by
  refine (sorted_any g W hg hN).mono ?_
  intro e w' h
  obtain ⟨hb, ⟨h1, he⟩ | ⟨h0, a, he, hs⟩⟩ := h
  · exact ⟨GD.none_, he, .inr ⟨h1, rfl⟩, readsG_none _, hb⟩
  · exact ⟨a, by rw [he, h0], .inl ⟨h0, hs.ord⟩, hs.reads, hb⟩
theorem rsorted_un (g : GD) (W : World) (hg : ReadsG W g) (hN : g.nts.length ≤ 4000000000000 ∧ g.ets.length ≤ 4000000000000 ∧ g.ns.length ≤ 2932031007401 ∧ g.es.length ≤ 2199023255551) (hT : Lib.Utf8Tabs 0 1 W) (hTB : ∀ W W', Below W.heap.size W W' → Lib.Utf8Tabs 0 1 W → Lib.Utf8Tabs 0 1 W') :
    Calls Tryd.prog 11 #[g.val] W fun e w' => ∃ a : GD, e = .returned (.tuple #[a.val, .int .i64 (checkR g.nts g.ets g.ns g.es).2.2]) ∧ PairOk g a ∧ ReadsG w' a ∧ Below W.heap.size W w' := by
  refine (rsorted_any g W hg hN hT hTB).mono ?_
  intro e w' h
  obtain ⟨hb, ⟨h1, he⟩ | ⟨h0, a, he, hr, ho⟩⟩ := h
  · exact ⟨GD.none_, he, .inr ⟨h1, rfl⟩, readsG_none _, hb⟩
  · exact ⟨a, by rw [he, h0], .inl ⟨h0, ho⟩, hr, hb⟩
theorem pair_same {g a b : GD} (ha : PairOk g a) (hb : PairOk g b) : a.nts.map TD.con = b.nts.map TD.con ∧ a.ets.map TD.con = b.ets.map TD.con ∧ a.ns.map ND.con = b.ns.map ND.con ∧ a.es.map ED.con = b.es.map ED.con := by
  rcases ha with ⟨h0, ha⟩ | ⟨h0, ha⟩
  · rcases hb with ⟨_, hb⟩ | ⟨h1, _⟩
    · exact ord_same ha hb rfl rfl (List.Perm.refl _) (List.Perm.refl _) (check_fine h0).nids (check_fine h0).eids
    · exact absurd h0 h1
  · rcases hb with ⟨h1, _⟩ | ⟨_, hb⟩
    · exact absurd h1 h0
    · rw [ha, hb]
      exact ⟨rfl, rfl, rfl, rfl⟩
set_option maxRecDepth 100000 in
set_option maxHeartbeats 25600000 in
theorem checks_walk (g : GD) (w : World) (hg : ReadsG w g) (hN : g.nts.length ≤ 4000000000000 ∧ g.ets.length ≤ 4000000000000 ∧ g.ns.length ≤ 2932031007401 ∧ g.es.length ≤ 2199023255551) (hT : Lib.Utf8Tabs 0 1 w) :
    Calls Tryd.prog 4 #[g.val] w fun e w' => e = .returned (.bool true) ∧ Below w.heap.size w w' := by
  have hTB : ∀ W W', Below W.heap.size W W' → Lib.Utf8Tabs 0 1 W → Lib.Utf8Tabs 0 1 W' := fun W W' h t => Utf8Tabs_below t h
  have HCK : Aside0 (∀ W, Below w.heap.size w W → Calls Tryd.prog 8 #[g.val] W fun e w' => e = .returned (.tuple #[.agg #[.int .i64 (checkR g.nts g.ets g.ns g.es).1, .int .i64 ((checkR g.nts g.ets g.ns g.es).2.1 : Int)], .int .i64 (checkR g.nts g.ets g.ns g.es).2.2]) ∧ Below W.heap.size W w') := ⟨fun W h => check_any g.nts g.ets g.ns g.es g.NA g.EA g.VA g.UA g.nc g.ec g.vc g.uc W (hg.below h).nts (hg.below h).ets (hg.below h).ns (hg.below h).es hN.1 hN.2.1⟩
  have HCR2 : Aside0 (∀ W, Below w.heap.size w W → Calls Tryd.prog 9 #[g.val] W fun e w' => e = .returned (.tuple #[.agg #[.int .i64 (checkR g.nts g.ets g.ns g.es).1, .int .i64 ((checkR g.nts g.ets g.ns g.es).2.1 : Int)], .int .i64 (checkR g.nts g.ets g.ns g.es).2.2]) ∧ Below W.heap.size W w') := ⟨fun W h => rcheck_any g W (hg.below h) hN.1 hN.2.1 (hTB _ _ h hT) hTB⟩
  have HS1 : Aside0 (∀ W, Below w.heap.size w W → _) := ⟨fun W h => sorted_un g W (hg.below h) hN⟩
  have HS2 : Aside0 (∀ W, Below w.heap.size w W → _) := ⟨fun W h => rsorted_un g W (hg.below h) hN (hTB _ _ h hT) hTB⟩
  have HH : Aside0 (∀ W, Calls Tryd.prog 5 #[] W fun e w' => e = .returned (.bool true) ∧ Below W.heap.size W w') := ⟨fun W => head_any W⟩
  obtain ⟨CR, hCR⟩ : ∃ CR, CR = checkR g.nts g.ets g.ns g.es := ⟨_, rfl⟩
  rw [← hCR] at HCK HCR2 HS1 HS2
  clear hCR
  obtain ⟨c1, c2, c3⟩ := CR
  have HPS : Aside0 (∀ (a b : GD) W, PairOk g a → PairOk g b → ReadsG W a → ReadsG W b → Calls Tryd.prog 12 #[a.val, b.val] W fun e w' => e = .returned (.bool true) ∧ Below W.heap.size W w') := ⟨fun a b W ha hb h1 h2 => by
    obtain ⟨e1, e2, e3, e4⟩ := pair_same ha hb
    exact same_graphs a b W h1 h2 e1 e2 e3 e4⟩
  obtain ⟨GG, hGG⟩ : ∃ GG : GD, GG = g := ⟨_, rfl⟩
  simp only [← hGG] at HS1 HS2 HPS
  have HSV1 : Aside0 (∀ W, Below w.heap.size w W → Calls Tryd.prog 10 #[g.val] W fun e w' => ∃ a : GD, e = .returned (.tuple #[a.val, .int .i64 c3]) ∧ PairOk GG a ∧ ReadsG w' a ∧ Below W.heap.size W w') := ⟨fun W h => by rw [← hGG]; exact HS1.out W h⟩
  have HSV2 : Aside0 (∀ W, Below w.heap.size w W → Calls Tryd.prog 11 #[g.val] W fun e w' => ∃ a : GD, e = .returned (.tuple #[a.val, .int .i64 c3]) ∧ PairOk GG a ∧ ReadsG w' a ∧ Below W.heap.size W w') := ⟨fun W h => by rw [← hGG]; exact HS2.out W h⟩
  clear HS1 HS2 hGG hg hN hT hTB
  obtain ⟨NA, nts, nc, EA, ets, ec, VA, ns, vc, UA, es, uc⟩ := g
  simp only [GD.val] at HCK HCR2 HSV1 HSV2 ⊢
  go_enter Tryd.func4, Tryd.ntmps4
  go_upto_region 1 with (fail)
  obtain ⟨W1, hW1⟩ : ∃ W1, W1 = w.alloc (.cells #[.slice NA nts.length nc, .slice EA ets.length ec, .slice VA ns.length vc, .slice UA es.length uc] 28) := ⟨_, rfl⟩
  obtain ⟨br, hbr⟩ : ∃ br, br = w.heap.size := ⟨_, rfl⟩
  have HR1 : Aside0 (GBox W1 br #[.slice NA nts.length nc, .slice EA ets.length ec, .slice VA ns.length vc, .slice UA es.length uc]) := ⟨by
    unfold GBox
    rw [hbr, hW1]
    exact heap_alloc_new w _⟩
  have HB1 : Aside0 (Below w.heap.size w W1) := ⟨by rw [hW1]; exact below_more (Below.refl _ _) _⟩
  rw [← hW1, ← hbr]
  clear hW1 hbr
  have hhd := HH.out W1
  go_upto_region 2 with (go_at_call 5; go_loud (refine hhd.mono ?_); (first | (intro e W2 he hb2; subst he) | rintro e W2 ⟨rfl, hb2⟩))
  have HB2 := Aside0.mk (below_then HB1.out hb2)
  have HR2 := Aside0.mk (gbox_below HR1.out hb2)
  clear hhd hb2
  have hck := HCK.out W2 HB2.out
  have hrc := HR2.out.cells
  go_upto_region 3 with (go_at_call 8; go_loud (refine hck.mono ?_); (first | (intro e W3 he hb3; subst he) | rintro e W3 ⟨rfl, hb3⟩))
  obtain ⟨W4, hW4⟩ : ∃ W4, W4 = W3.alloc (.cells #[.int .i64 c1, .int .i64 (c2 : Int)] 31) := ⟨_, rfl⟩
  obtain ⟨p1, hp1⟩ : ∃ p1, p1 = W3.heap.size := ⟨_, rfl⟩
  have hb24 : Below W2.heap.size W2 W4 := by rw [hW4]; exact below_more hb3 _
  have HP4 : Aside0 (PBox W4 p1 #[.int .i64 c1, .int .i64 (c2 : Int)]) := ⟨by rw [hW4, hp1]; exact heap_alloc_new W3 _⟩
  have HR4 := Aside0.mk (gbox_below HR2.out hb24)
  have HB4 := Aside0.mk (below_then HB2.out hb24)
  rw [← hW4, ← hp1]
  clear hck hrc hW4 hb24 hb3 hp1
  have hck := HCR2.out W4 HB4.out
  have hrc := HR4.out.cells
  go_upto_region 4 with (go_at_call 9; go_loud (refine hck.mono ?_); (first | (intro e W5 he hb5; subst he) | rintro e W5 ⟨rfl, hb5⟩))
  obtain ⟨W6, hW6⟩ : ∃ W6, W6 = W5.alloc (.cells #[.int .i64 c1, .int .i64 (c2 : Int)] 31) := ⟨_, rfl⟩
  obtain ⟨p2, hp2⟩ : ∃ p2, p2 = W5.heap.size := ⟨_, rfl⟩
  have hb46 : Below W4.heap.size W4 W6 := by rw [hW6]; exact below_more hb5 _
  have HQ6 : Aside0 (PBox W6 p2 #[.int .i64 c1, .int .i64 (c2 : Int)]) := ⟨by rw [hW6, hp2]; exact heap_alloc_new W5 _⟩
  have HP6 := Aside0.mk (pbox_below HP4.out hb46)
  have HR6 := Aside0.mk (gbox_below HR4.out hb46)
  have HB6 := Aside0.mk (below_then HB4.out hb46)
  rw [← hW6, ← hp2]
  clear hck hrc hW6 hb46 hb5 hp2
  have hso := HSV1.out W6 HB6.out
  have hrc := HR6.out.cells
  go_upto_region 5 with (go_at_call 10; go_loud (refine hso.mono ?_); rintro e W8 ⟨ga, rfl, hoa, hra, hb8⟩; have HOA := Aside0.mk hoa; have HRA := Aside0.mk hra; obtain ⟨NAa, ntsa, nca, EAa, etsa, eca, VAa, nsa, vca, UAa, esa, uca⟩ := ga; dsimp only [GD.val])
  obtain ⟨W9, hW9⟩ : ∃ W9, W9 = W8.alloc (.cells #[.slice NAa ntsa.length nca, .slice EAa etsa.length eca, .slice VAa nsa.length vca, .slice UAa esa.length uca] 28) := ⟨_, rfl⟩
  obtain ⟨ba, hba⟩ : ∃ ba, ba = W8.heap.size := ⟨_, rfl⟩
  have hb89 : Below W8.heap.size W8 W9 := by rw [hW9]; exact below_more (Below.refl _ _) _
  have hb69 := below_then hb8 hb89
  have HA9 : Aside0 (GBox W9 ba #[.slice NAa ntsa.length nca, .slice EAa etsa.length eca, .slice VAa nsa.length vca, .slice UAa esa.length uca]) := ⟨by unfold GBox; rw [hba, hW9]; exact heap_alloc_new W8 _⟩
  have HRA9 := Aside0.mk (HRA.out.below hb89)
  have HP9 := Aside0.mk (pbox_below HP6.out hb69)
  have HQ9 := Aside0.mk (pbox_below HQ6.out hb69)
  have HR9 := Aside0.mk (gbox_below HR6.out hb69)
  have HB9 := Aside0.mk (below_then HB6.out hb69)
  rw [← hW9, ← hba]
  clear hW9 hba hb89 hb69 hoa hra hb8 hso hrc HRA
  have hso := HSV2.out W9 HB9.out
  have hrc := HR9.out.cells
  go_upto_region 6 with (go_at_call 11; go_loud (refine hso.mono ?_); rintro e W11 ⟨gb, rfl, hob, hrb, hb11⟩; have HOB := Aside0.mk hob; have HRB := Aside0.mk hrb; obtain ⟨NAb, ntsb, ncb, EAb, etsb, ecb, VAb, nsb, vcb, UAb, esb, ucb⟩ := gb; dsimp only [GD.val])
  obtain ⟨W12, hW12⟩ : ∃ W12, W12 = W11.alloc (.cells #[.slice NAb ntsb.length ncb, .slice EAb etsb.length ecb, .slice VAb nsb.length vcb, .slice UAb esb.length ucb] 28) := ⟨_, rfl⟩
  obtain ⟨bb, hbb⟩ : ∃ bb, bb = W11.heap.size := ⟨_, rfl⟩
  have hb1112 : Below W11.heap.size W11 W12 := by rw [hW12]; exact below_more (Below.refl _ _) _
  have hb912 : Below W9.heap.size W9 W12 := below_then hb11 hb1112
  have HBB : Aside0 (GBox W12 bb #[.slice NAb ntsb.length ncb, .slice EAb etsb.length ecb, .slice VAb nsb.length vcb, .slice UAb esb.length ucb]) := ⟨by unfold GBox; rw [hbb, hW12]; exact heap_alloc_new W11 _⟩
  have HRB12 := Aside0.mk (HRB.out.below hb1112)
  have HA12 := Aside0.mk (gbox_below HA9.out hb912)
  have HRA12 := Aside0.mk (HRA9.out.below hb912)
  have HP12 := Aside0.mk (pbox_below HP9.out hb912)
  have HQ12 := Aside0.mk (pbox_below HQ9.out hb912)
  have HB12 := Aside0.mk (below_then HB9.out hb912)
  rw [← hW12, ← hbb]
  clear hW12 hbb hb1112 hb912 hob hrb hb11 hso hrc HRB
  have hac := HA12.out.cells
  have hbc := HBB.out.cells
  have hs1 := HPS.out _ _ W12 HOA.out HOB.out HRA12.out HRB12.out
  dsimp only [GD.val] at hs1
  go_upto_region 7 with (go_at_call 12; go_loud (refine hs1.mono ?_); (first | (intro e W15 he hb15; subst he) | rintro e W15 ⟨rfl, hb15⟩))
  have HB15 := Aside0.mk (below_then HB12.out hb15)
  have hpc := (pbox_below HP12.out hb15).cells
  have hqc := (pbox_below HQ12.out hb15).cells
  clear hs1 hac hbc hb15
  go_wp2
  go_ret
  exact ⟨rfl, HB15.out⟩
end Go.Proofs.YtffifhinhemkdaaDoor
