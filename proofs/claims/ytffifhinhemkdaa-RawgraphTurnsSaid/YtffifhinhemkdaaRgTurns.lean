/- The walk of RawgraphTurns. -/
import Derived.Test.YtffifhinhemkdaaRgPl5
import Derived.Test.YtffifhinhemkdaaRgTurn
import Derived.Test.YtffifhinhemkdaaRgSame
import Derived.Test.YtffifhinhemkdaaRgHdA
set_option linter.unusedVariables false
set_option linter.unusedSimpArgs false
namespace Go.Proofs.Ytffifhinhemkdaa
open Go.RowKit

theorem sorted_ok (g : GD) (W : World) (hg : ReadsG W g) (hN : g.nts.length ≤ 4000000000000 ∧ g.ets.length ≤ 4000000000000 ∧ g.ns.length ≤ 2932031007401 ∧ g.es.length ≤ 2199023255551) (hc : (checkR g.nts g.ets g.ns g.es).2.2 = 0) :
    Calls Try.prog 9 #[g.val] W fun e w' => ∃ a : GD, e = .returned (.tuple #[a.val, .int .i64 0]) ∧ Ord g a ∧ ReadsG w' a ∧ Below W.heap.size W w' := by
  refine (sorted_any g W hg hN).mono ?_
  intro e w' h
  obtain ⟨hb, ⟨h1, _⟩ | ⟨_, a, he, hs⟩⟩ := h
  · exact absurd hc h1
  · exact ⟨a, he, hs.ord, hs.reads, hb⟩
theorem turned_ok (g : GD) (PA : Option Addr) (pb : List Int) (pc : Nat) (DA : Option Addr) (db : List Int) (dc : Nat) (w : World) (hg : ReadsG w g) (hp : Bytes w PA pb) (hd : Bytes w DA db) (hN : g.ns.length ≤ 2932031007401 ∧ g.es.length ≤ 2199023255551) :
    Calls Try.prog 8 #[g.val, .slice PA pb.length pc, .slice DA db.length dc] w fun e w' => ∃ g2 : GD, e = .returned g2.val ∧ (g2.nts = g.nts ∧ g2.ets = g.ets ∧ g2.ns.Perm g.ns ∧ (∃ l : List ED, l.Sublist g.es ∧ g2.es.Perm l ∧ (db = [] → l = g.es))) ∧ ReadsG w' g2 ∧ Below w.heap.size w w' := by
  refine (turned_any g PA pb pc DA db dc w hg hp hd hN).mono ?_
  intro e w' h
  obtain ⟨hb, g2, he, hr, h1⟩ := h
  exact ⟨g2, he, h1, hr, hb⟩
theorem check_ok (g : GD) (w : World) (hg : ReadsG w g) (hN : g.nts.length ≤ 4000000000000 ∧ g.ets.length ≤ 4000000000000) (h0 : checkR g.nts g.ets g.ns g.es = (0, 0, 0)) :
    Calls Try.prog 7 #[g.val] w fun e w' => e = .returned (.tuple #[.agg #[.int .i64 0, .int .i64 0], .int .i64 0]) ∧ Below w.heap.size w w' := by
  have h := check_any g.nts g.ets g.ns g.es g.NA g.EA g.VA g.UA g.nc g.ec g.vc g.uc w hg.nts hg.ets hg.ns hg.es hN.1 hN.2
  rw [h0] at h
  exact h
theorem ord_len {g a : GD} (h : Ord g a) : a.nts.length = g.nts.length ∧ a.ets.length = g.ets.length ∧ a.ns.length = g.ns.length ∧ a.es.length = g.es.length := by
  refine ⟨by simpa using congrArg List.length h.nts, by simpa using congrArg List.length h.ets, by simpa using h.ns.length_eq, by simpa using h.es.length_eq⟩
theorem bytes_none (W : World) : Bytes W none [] := ⟨by simp, fun j hj => absurd hj (by simp), fun z hz => (by cases hz)⟩
set_option maxRecDepth 100000 in
set_option maxHeartbeats 25600000 in
theorem turns_walk (g : GD) (PA : Option Addr) (pb : List Int) (pc : Nat) (DA : Option Addr) (db : List Int) (dc : Nat) (w : World) (hg : ReadsG w g) (hp : Bytes w PA pb) (hd : Bytes w DA db) (hN : g.nts.length ≤ 4000000000000 ∧ g.ets.length ≤ 4000000000000 ∧ g.ns.length ≤ 2932031007401 ∧ g.es.length ≤ 2199023255551) :
    Calls Try.prog 5 #[g.val, .slice PA pb.length pc, .slice DA db.length dc] w fun e w' => e = .returned (.bool true) ∧ Below w.heap.size w w' := by
  have HCK : Aside0 (∀ W, Below w.heap.size w W → Calls Try.prog 7 #[g.val] W fun e w' => e = .returned (.tuple #[.agg #[.int .i64 (checkR g.nts g.ets g.ns g.es).1, .int .i64 ((checkR g.nts g.ets g.ns g.es).2.1 : Int)], .int .i64 (checkR g.nts g.ets g.ns g.es).2.2]) ∧ Below W.heap.size W w') := ⟨fun W h => check_any g.nts g.ets g.ns g.es g.NA g.EA g.VA g.UA g.nc g.ec g.vc g.uc W (hg.below h).nts (hg.below h).ets (hg.below h).ns (hg.below h).es hN.1 hN.2.1⟩
  have HT1 : Aside0 (∀ W, Below w.heap.size w W → _) := ⟨fun W h => turned_ok g PA pb pc DA db dc W (hg.below h) (hp.below h) (hd.below h) ⟨hN.2.2.1, hN.2.2.2⟩⟩
  have HT2 : Aside0 (∀ W, Below w.heap.size w W → _) := ⟨fun W h => turned_ok g PA pb pc none [] 0 W (hg.below h) (hp.below h) (bytes_none W) ⟨hN.2.2.1, hN.2.2.2⟩⟩
  have HS1 : Aside0 ((checkR g.nts g.ets g.ns g.es).2.2 = 0 → ∀ W, Below w.heap.size w W → _) := ⟨fun hc W h => sorted_ok g W (hg.below h) hN hc⟩
  have HH : Aside0 (∀ W, Calls Try.prog 6 #[] W fun e w' => e = .returned (.bool true) ∧ Below W.heap.size W w') := ⟨fun W => head_any W⟩
  have HG := Aside0.mk hg
  obtain ⟨CR, hCR⟩ : ∃ CR, CR = checkR g.nts g.ets g.ns g.es := ⟨_, rfl⟩
  have HCR := Aside0.mk hCR
  rw [← hCR] at HCK HS1
  obtain ⟨c1, c2, c3⟩ := CR
  obtain ⟨NA, nts, nc, EA, ets, ec, VA, ns, vc, UA, es, uc⟩ := g
  simp only [GD.val, List.length_nil] at HCK HT1 HT2 HS1 ⊢
  simp only at hN HCR
  obtain ⟨np, hnp⟩ : ∃ np, np = pb.length := ⟨_, rfl⟩
  obtain ⟨nd, hnd⟩ : ∃ nd, nd = db.length := ⟨_, rfl⟩
  rw [← hnp] at HT1 HT2 ⊢
  rw [← hnd] at HT1 ⊢
  have HN := Aside0.mk hN
  clear hnp hnd hCR hg hp hd hN
  go_enter Try.func5, Try.ntmps5
  go_upto_region 1 with (fail)
  obtain ⟨W1, hW1⟩ : ∃ W1, W1 = w.alloc (.cells #[.slice NA nts.length nc, .slice EA ets.length ec, .slice VA ns.length vc, .slice UA es.length uc] 26) := ⟨_, rfl⟩
  obtain ⟨br, hbr⟩ : ∃ br, br = w.heap.size := ⟨_, rfl⟩
  have HR1 : Aside0 (GBox W1 br #[.slice NA nts.length nc, .slice EA ets.length ec, .slice VA ns.length vc, .slice UA es.length uc]) := ⟨by
    unfold GBox
    rw [hbr, hW1]
    exact heap_alloc_new w _⟩
  have HB1 : Aside0 (Below w.heap.size w W1) := ⟨by rw [hW1]; exact below_more (Below.refl _ _) _⟩
  rw [← hW1, ← hbr]
  clear hW1 hbr
  have hhd := HH.out W1
  go_upto_region 2 with (go_at_call 6; go_loud (refine hhd.mono ?_); (first | (intro e W2 he hb2; subst he) | rintro e W2 ⟨rfl, hb2⟩))
  have HB2 := Aside0.mk (below_then HB1.out hb2)
  have HR2 := Aside0.mk (HR1.out.below hb2)
  clear hhd hb2
  have hck := HCK.out W2 HB2.out
  have hrc := HR2.out.cells
  go_upto_region 3 with (go_at_call 7; go_loud (refine hck.mono ?_); (first | (intro e W3 he hb3; subst he) | rintro e W3 ⟨rfl, hb3⟩))
  obtain ⟨W4, hW4⟩ : ∃ W4, W4 = W3.alloc (.cells #[.int .i64 c1, .int .i64 (c2 : Int)] 35) := ⟨_, rfl⟩
  have hb24 : Below W2.heap.size W2 W4 := by rw [hW4]; exact below_more hb3 _
  have HR4 := Aside0.mk (HR2.out.below hb24)
  have HB4 := Aside0.mk (below_then HB2.out hb24)
  rw [← hW4]
  clear hck hrc hW4 hb24 hb3
  by_cases hc3 : c3 = 0
  · subst hc3
    have HC0 : Aside0 ((checkR nts ets ns es).2.2 = 0) := ⟨by rw [← HCR.out]⟩
    have hrc := HR4.out.cells
    have htu := HT1.out W4 HB4.out
    go_upto_region 6 with (first | (go_at_call 8; go_loud (refine htu.mono ?_); rintro e W5 ⟨gt, rfl, ht1, hrt, hb5⟩; obtain ⟨NA1, nts1, nc1, EA1, ets1, ec1, VA1, ns1, vc1, UA1, es1, uc1⟩ := gt; dsimp only [GD.val]; have HT1F := Aside0.mk ht1; have HTR := Aside0.mk hrt; have HB5 := Aside0.mk (below_then HB4.out hb5); clear ht1 hrt; have hck := check_ok (⟨NA1, nts1, nc1, EA1, ets1, ec1, VA1, ns1, vc1, UA1, es1, uc1⟩ : GD) W5 HTR.out ⟨by have h := HT1F.out.1; simp only at h; rw [h]; exact HN.out.1, by have h := HT1F.out.2.1; simp only at h; rw [h]; exact HN.out.2.1⟩ (by
        obtain ⟨h1, h2, h3, l, h4, h5, _⟩ := HT1F.out
        simp only at h1 h2
        rw [h1, h2]
        exact turn_check HC0.out h3 h4 h5); dsimp only [GD.val] at hck) | (go_at_call 7; go_loud (refine hck.mono ?_); (first | (intro e W6 he hb6; subst he) | rintro e W6 ⟨rfl, hb6⟩)))
    obtain ⟨W7, hW7⟩ : ∃ W7, W7 = W6.alloc (.cells #[.int .i64 0, .int .i64 0] 35) := ⟨_, rfl⟩
    have hb47 : Below W4.heap.size W4 W7 := by rw [hW7]; exact below_more (below_then hb5 hb6) _
    have HR7 := Aside0.mk (HR4.out.below hb47)
    have HB7 := Aside0.mk (below_then HB4.out hb47)
    rw [← hW7]
    clear hck hrc hW7 hb47 hb5 hb6 htu
    have hrc := HR7.out.cells
    have hso := HS1.out (by first | rfl | trivial) W7 HB7.out
    go_upto_region 7 with (go_at_call 9; go_loud (refine hso.mono ?_); rintro e W8 ⟨ga, rfl, hoa, hra, hb8⟩; obtain ⟨NAa, ntsa, nca, EAa, etsa, eca, VAa, nsa, vca, UAa, esa, uca⟩ := ga; dsimp only [GD.val])
    obtain ⟨W9, hW9⟩ : ∃ W9, W9 = W8.alloc (.cells #[.slice NAa ntsa.length nca, .slice EAa etsa.length eca, .slice VAa nsa.length vca, .slice UAa esa.length uca] 26) := ⟨_, rfl⟩
    obtain ⟨ba, hba⟩ : ∃ ba, ba = W8.heap.size := ⟨_, rfl⟩
    have hb89 : Below W8.heap.size W8 W9 := by rw [hW9]; exact below_more (Below.refl _ _) _
    have HA9 : Aside0 (GBox W9 ba #[.slice NAa ntsa.length nca, .slice EAa etsa.length eca, .slice VAa nsa.length vca, .slice UAa esa.length uca]) := ⟨by unfold GBox; rw [hba, hW9]; exact heap_alloc_new W8 _⟩
    have HRA9 := Aside0.mk (hra.below hb89)
    have HOA := Aside0.mk hoa
    have HR9 := Aside0.mk (HR7.out.below (below_then hb8 hb89))
    have HB9 := Aside0.mk (below_then HB7.out (below_then hb8 hb89))
    rw [← hW9, ← hba]
    clear hW9 hba hb89 hoa hra hb8 hso hrc
    have hrc := HR9.out.cells
    have htu := HT2.out W9 HB9.out
    have HSB : Aside0 (∀ (gt : GD) W, ReadsG W gt → (gt.nts = nts ∧ gt.ets = ets ∧ gt.ns.Perm ns ∧ (∃ l : List ED, l.Sublist es ∧ gt.es.Perm l ∧ (([] : List Int) = [] → l = es))) → _) := ⟨fun gt W hr h => sorted_ok gt W hr ⟨by rw [h.1]; exact HN.out.1, by rw [h.2.1]; exact HN.out.2.1, by rw [h.2.2.1.length_eq]; exact HN.out.2.2.1, by
      obtain ⟨l, _, h5, h6⟩ := h.2.2.2
      rw [h5.length_eq, h6 (by first | rfl | trivial)]
      exact HN.out.2.2.2⟩ (by
      obtain ⟨h1, h2, h3, l, h4, h5, _⟩ := h
      rw [h1, h2, turn_check HC0.out h3 h4 h5])⟩
    go_upto_region 8 with (first | (go_at_call 8; go_loud (refine htu.mono ?_); rintro e W10 ⟨gt2, rfl, ht2, hrt2, hb10⟩; have hso := HSB.out gt2 W10 hrt2 ht2; obtain ⟨NA2, nts2, nc2, EA2, ets2, ec2, VA2, ns2, vc2, UA2, es2, uc2⟩ := gt2; dsimp only [GD.val] at hso ⊢; have HT2F := Aside0.mk ht2; clear ht2 hrt2) | (go_at_call 9; go_loud (refine hso.mono ?_); rintro e W11 ⟨gb, rfl, hob, hrb, hb11⟩; obtain ⟨NAb, ntsb, ncb, EAb, etsb, ecb, VAb, nsb, vcb, UAb, esb, ucb⟩ := gb; dsimp only [GD.val]))
    obtain ⟨W12, hW12⟩ : ∃ W12, W12 = W11.alloc (.cells #[.slice NAb ntsb.length ncb, .slice EAb etsb.length ecb, .slice VAb nsb.length vcb, .slice UAb esb.length ucb] 26) := ⟨_, rfl⟩
    obtain ⟨bb, hbb⟩ : ∃ bb, bb = W11.heap.size := ⟨_, rfl⟩
    have hb1112 : Below W11.heap.size W11 W12 := by rw [hW12]; exact below_more (Below.refl _ _) _
    have hb912 : Below W9.heap.size W9 W12 := below_then (below_then hb10 hb11) hb1112
    have HBB : Aside0 (GBox W12 bb #[.slice NAb ntsb.length ncb, .slice EAb etsb.length ecb, .slice VAb nsb.length vcb, .slice UAb esb.length ucb]) := ⟨by unfold GBox; rw [hbb, hW12]; exact heap_alloc_new W11 _⟩
    have HRB12 := Aside0.mk (hrb.below hb1112)
    have HOB := Aside0.mk hob
    have HA12 := Aside0.mk (HA9.out.below hb912)
    have HRA12 := Aside0.mk (HRA9.out.below hb912)
    have HB12 := Aside0.mk (below_then HB9.out hb912)
    rw [← hW12, ← hbb]
    clear hW12 hbb hb1112 hb912 hob hrb hb10 hb11 hso htu hrc
    have hac := HA12.out.cells
    have hso := sorted_ok (⟨NAa, ntsa, nca, EAa, etsa, eca, VAa, nsa, vca, UAa, esa, uca⟩ : GD) W12 HRA12.out (by
      have h := ord_len HOA.out
      have h2 := HN.out
      simp only at h ⊢
      omega) (by rw [ord_check HC0.out HOA.out])
    dsimp only [GD.val] at hso
    go_upto_region 9 with (go_at_call 9; go_loud (refine hso.mono ?_); rintro e W13 ⟨gc, rfl, hoc, hrc, hb13⟩; obtain ⟨NAc, ntsc, ncc, EAc, etsc, ecc, VAc, nsc, vcc, UAc, esc, ucc⟩ := gc; dsimp only [GD.val])
    obtain ⟨W14, hW14⟩ : ∃ W14, W14 = W13.alloc (.cells #[.slice NAc ntsc.length ncc, .slice EAc etsc.length ecc, .slice VAc nsc.length vcc, .slice UAc esc.length ucc] 26) := ⟨_, rfl⟩
    obtain ⟨bc, hbc⟩ : ∃ bc, bc = W13.heap.size := ⟨_, rfl⟩
    have hb1314 : Below W13.heap.size W13 W14 := by rw [hW14]; exact below_more (Below.refl _ _) _
    have hb1214 : Below W12.heap.size W12 W14 := below_then hb13 hb1314
    have HCB : Aside0 (GBox W14 bc #[.slice NAc ntsc.length ncc, .slice EAc etsc.length ecc, .slice VAc nsc.length vcc, .slice UAc esc.length ucc]) := ⟨by unfold GBox; rw [hbc, hW14]; exact heap_alloc_new W13 _⟩
    have HRC14 := Aside0.mk (hrc.below hb1314)
    have HOC := Aside0.mk hoc
    have HA14 := Aside0.mk (HA12.out.below hb1214)
    have HRA14 := Aside0.mk (HRA12.out.below hb1214)
    have HBB14 := Aside0.mk (HBB.out.below hb1214)
    have HRB14 := Aside0.mk (HRB12.out.below hb1214)
    have HB14 := Aside0.mk (below_then HB12.out hb1214)
    rw [← hW14, ← hbc]
    clear hW14 hbc hb1314 hb1214 hoc hrc hb13 hso hac
    have hac := HA14.out.cells
    have hbc := HBB14.out.cells
    have hs1 := same_graphs (⟨NAa, ntsa, nca, EAa, etsa, eca, VAa, nsa, vca, UAa, esa, uca⟩ : GD) (⟨NAb, ntsb, ncb, EAb, etsb, ecb, VAb, nsb, vcb, UAb, esb, ucb⟩ : GD) W14 HRA14.out HRB14.out
    have HE1 : Aside0 _ := ⟨ord_same HOA.out HOB.out HT2F.out.1 HT2F.out.2.1 HT2F.out.2.2.1 (by
      obtain ⟨l, _, h5, h6⟩ := HT2F.out.2.2.2
      have h7 := h6 (by first | rfl | trivial)
      rw [h7] at h5
      exact h5) (check_fine HC0.out).nids (check_fine HC0.out).eids⟩
    have hs1 := hs1 HE1.out.1 HE1.out.2.1 HE1.out.2.2.1 HE1.out.2.2.2
    dsimp only [GD.val] at hs1
    go_upto_region 10 with (go_at_call 10; go_loud (refine hs1.mono ?_); (first | (intro e W15 he hb15; subst he) | rintro e W15 ⟨rfl, hb15⟩))
    have HA15 := Aside0.mk (HA14.out.below hb15)
    have HC15 := Aside0.mk (HCB.out.below hb15)
    have HB15 := Aside0.mk (below_then HB14.out hb15)
    have HE2 : Aside0 _ := ⟨ord_again HC0.out HOA.out HOC.out⟩
    have hs2 := same_graphs (⟨NAa, ntsa, nca, EAa, etsa, eca, VAa, nsa, vca, UAa, esa, uca⟩ : GD) (⟨NAc, ntsc, ncc, EAc, etsc, ecc, VAc, nsc, vcc, UAc, esc, ucc⟩ : GD) W15 (HRA14.out.below hb15) (HRC14.out.below hb15) HE2.out.1 HE2.out.2.1 HE2.out.2.2.1 HE2.out.2.2.2
    dsimp only [GD.val] at hs2
    clear hs1 hac hbc hb15
    have hac := HA15.out.cells
    have hcc := HC15.out.cells
    go_upto_region 11 with (go_at_call 10; go_loud (refine hs2.mono ?_); (first | (intro e W16 he hb16; subst he) | rintro e W16 ⟨rfl, hb16⟩))
    have HB16 := Aside0.mk (below_then HB15.out hb16)
    clear hs2 hac hcc hb16
    go_wp2
    go_ret
    exact ⟨rfl, HB16.out⟩
  · have hc3b : (c3 == 0) = false := by simp [hc3]
    go_wp2
    go_ret
    exact ⟨rfl, HB4.out⟩
end Go.Proofs.Ytffifhinhemkdaa
