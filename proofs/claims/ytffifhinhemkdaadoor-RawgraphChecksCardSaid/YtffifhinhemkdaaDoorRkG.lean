/- The document's Sorted. -/
import Derived.Test.YtffifhinhemkdaaDoorRkG0
set_option linter.unusedVariables false
set_option linter.unusedSimpArgs false
namespace Go.Proofs.YtffifhinhemkdaaDoor
open Go.RowKit Go.Maps

def RSortedA (g : GD) (w : World) (e : Ending) (w' : World) : Prop :=
  Below w.heap.size w w' ∧ ((¬ (checkR g.nts g.ets g.ns g.es).2.2 = 0 ∧ e = .returned (.tuple #[.agg #[.slice none 0 0, .slice none 0 0, .slice none 0 0, .slice none 0 0], .int .i64 (checkR g.nts g.ets g.ns g.es).2.2])) ∨ ((checkR g.nts g.ets g.ns g.es).2.2 = 0 ∧ ∃ g2, e = .returned (.tuple #[g2.val, .int .i64 0]) ∧ ReadsG w' g2 ∧ Ord g g2))
set_option maxRecDepth 100000 in
set_option maxHeartbeats 25600000 in
theorem rsorted_any (g : GD) (w : World) (hg : ReadsG w g) (hN : g.nts.length ≤ 4000000000000 ∧ g.ets.length ≤ 4000000000000 ∧ g.ns.length ≤ 2932031007401 ∧ g.es.length ≤ 2199023255551) (hT : Lib.Utf8Tabs 0 1 w) (hTB : ∀ W W', Below W.heap.size W W' → Lib.Utf8Tabs 0 1 W → Lib.Utf8Tabs 0 1 W') :
    Calls Tryd.prog 11 #[g.val] w fun e w' => RSortedA g w e w' := by
  have HCK : Aside0 (∀ W, Below w.heap.size w W → Calls Tryd.prog 9 #[g.val] W fun e w' => e = .returned (.tuple #[.agg #[.int .i64 (checkR g.nts g.ets g.ns g.es).1, .int .i64 ((checkR g.nts g.ets g.ns g.es).2.1 : Int)], .int .i64 (checkR g.nts g.ets g.ns g.es).2.2]) ∧ Below W.heap.size W w') := ⟨fun W h => rcheck_any g W (hg.below h) hN.1 hN.2.1 (hTB _ _ h hT) hTB⟩
  have HFI : Aside0 ((checkR g.nts g.ets g.ns g.es).2.2 = 0 → FineG g.nts g.ets g.ns g.es) := ⟨check_fine⟩
  have HG := Aside0.mk hg
  have HTYN : Aside0 (∀ (lb : ByteArray) W, Below w.heap.size w W → Calls Tryd.prog 31 #[.slice g.NA g.nts.length g.nc, .string lb] W fun e w' => ∃ r, e = .returned (.int .i64 r) ∧ TypeAns g.nts lb.data.toList r ∧ Below W.heap.size W w') := ⟨fun lb W h => type_any g.NA g.nts g.nc lb W (hg.below h).nts⟩
  have HTYE : Aside0 (∀ (lb : ByteArray) W, Below w.heap.size w W → Calls Tryd.prog 31 #[.slice g.EA g.ets.length g.ec, .string lb] W fun e w' => ∃ r, e = .returned (.int .i64 r) ∧ TypeAns g.ets lb.data.toList r ∧ Below W.heap.size W w') := ⟨fun lb W h => type_any g.EA g.ets g.ec lb W (hg.below h).ets⟩
  have HTRN : Aside0 (∀ X, Below w.heap.size w X → ∀ (j : Nat), j < g.nts.length → ∃ ad, g.NA = some ad ∧ HoldsT X (ad.add (j * 2)) (g.nts.getD j TD.zero)) := ⟨fun X h j hj => (hg.nts.below h).row j hj⟩
  have HTRE : Aside0 (∀ X, Below w.heap.size w X → ∀ (j : Nat), j < g.ets.length → ∃ ad, g.EA = some ad ∧ HoldsT X (ad.add (j * 2)) (g.ets.getD j TD.zero)) := ⟨fun X h j hj => (hg.ets.below h).row j hj⟩
  obtain ⟨NA, nts, nc, EA, ets, ec, VA, ns, vc, UA, es, uc⟩ := g
  simp only [GD.val] at HCK HTYN HTYE HTRN HTRE ⊢
  simp only at HFI hN
  obtain ⟨CR, hCR⟩ : ∃ CR, CR = checkR nts ets ns es := ⟨_, rfl⟩
  have HCR := Aside0.mk hCR
  rw [← hCR] at HCK HFI
  obtain ⟨c1, c2, c3⟩ := CR
  simp only at HCK HFI
  obtain ⟨n1, hn1⟩ : ∃ n1, n1 = nts.length := ⟨_, rfl⟩
  obtain ⟨n2, hn2⟩ : ∃ n2, n2 = ets.length := ⟨_, rfl⟩
  obtain ⟨n3, hn3⟩ : ∃ n3, n3 = ns.length := ⟨_, rfl⟩
  obtain ⟨n4, hn4⟩ : ∃ n4, n4 = es.length := ⟨_, rfl⟩
  rw [← hn1, ← hn2, ← hn3, ← hn4] at HCK hN ⊢
  rw [← hn1] at HTYN
  rw [← hn2] at HTYE
  have HN := Aside0.mk (And.intro hn1 (And.intro hn2 (And.intro hn3 hn4)))
  clear hn1 hn2 hn3 hn4 hCR hg hT hTB
  go_enter Tryd.func11, Tryd.ntmps11
  go_upto_region 1 with (fail)
  obtain ⟨Wa, hWa⟩ : ∃ Wa, Wa = w.alloc (.cells #[.slice NA n1 nc, .slice EA n2 ec, .slice VA n3 vc, .slice UA n4 uc] 28) := ⟨_, rfl⟩
  obtain ⟨W1, hW1⟩ : ∃ W1, W1 = Wa.alloc (.cells #[.slice none 0 0, .slice none 0 0, .slice none 0 0, .slice none 0 0] 28) := ⟨_, rfl⟩
  obtain ⟨br, hbr⟩ : ∃ br, br = w.heap.size := ⟨_, rfl⟩
  obtain ⟨bz, hbz⟩ : ∃ bz, bz = w.heap.size + 1 := ⟨_, rfl⟩
  have sa : Wa.heap.size = w.heap.size + 1 := by rw [hWa]; simp
  have HR1 : Aside0 (GBox W1 br #[.slice NA n1 nc, .slice EA n2 ec, .slice VA n3 vc, .slice UA n4 uc]) := ⟨by
    unfold GBox
    rw [hbr, hW1, heap_alloc_old _ _ (by omega), hWa]
    exact heap_alloc_new w _⟩
  have HZ1 : Aside0 (GBox W1 bz #[.slice none 0 0, .slice none 0 0, .slice none 0 0, .slice none 0 0]) := ⟨by
    unfold GBox
    rw [hbz, hW1, ← sa]
    exact heap_alloc_new Wa _⟩
  have HB1 : Aside0 (Below w.heap.size w W1) := ⟨by rw [hW1, hWa]; exact below_more (below_more (Below.refl _ _) _) _⟩
  have HBZ : Aside0 (w.heap.size ≤ br ∧ br < bz) := ⟨by omega⟩
  rw [← hWa, ← hW1, ← hbz, ← hbr]
  clear hWa hW1 hbr hbz sa
  have hck := HCK.out W1 HB1.out
  have hrc := HR1.out.cells
  go_upto_region 2 with (go_at_call 9; go_loud (refine hck.mono ?_); first | (intro e W2 he hb2; subst he) | rintro e W2 ⟨rfl, hb2⟩)
  obtain ⟨W3, hW3⟩ : ∃ W3, W3 = W2.alloc (.cells #[.int .i64 c1, .int .i64 (c2 : Int)] 31) := ⟨_, rfl⟩
  have hb13 : Below W1.heap.size W1 W3 := by rw [hW3]; exact below_more hb2 _
  have HR3 := Aside0.mk (gbox_below HR1.out hb13)
  have HZ3 := Aside0.mk (gbox_below HZ1.out hb13)
  have HBW3 : Aside0 (Below w.heap.size w W3) := ⟨below_then HB1.out hb13⟩
  have HBR : Aside0 (br < W3.heap.size ∧ bz < W3.heap.size) := ⟨⟨(Array.getElem?_eq_some_iff.1 HR3.out).1, (Array.getElem?_eq_some_iff.1 HZ3.out).1⟩⟩
  rw [← hW3]
  clear hW3 hb13 hb2 hck hrc HR1 HZ1 HB1
  by_cases hc3 : c3 = 0
  · subst hc3
    have HF : Aside0 (FineG nts ets ns es) := ⟨HFI.out (by first | rfl | trivial)⟩
    have hrc := HR3.out.cells
    go_upto_region 5 with (fail)
    obtain ⟨W4, hW4⟩ : ∃ W4, W4 = W3.alloc (.cells #[.slice NA n1 nc, .slice EA n2 ec, .slice none 0 0, .slice none 0 0] 28) := ⟨_, rfl⟩
    obtain ⟨bo, hbo⟩ : ∃ bo, bo = W3.heap.size := ⟨_, rfl⟩
    have HO4 : Aside0 (GBox W4 bo #[.slice NA n1 nc, .slice EA n2 ec, .slice none 0 0, .slice none 0 0]) := ⟨by unfold GBox; rw [hbo, hW4]; exact heap_alloc_new W3 _⟩
    have hb34 : Below W3.heap.size W3 W4 := by rw [hW4]; exact below_more (Below.refl _ _) _
    have HR4 := Aside0.mk (gbox_below HR3.out hb34)
    have HZ4 := Aside0.mk (gbox_below HZ3.out hb34)
    have HB4 := Aside0.mk (below_then HBW3.out hb34)
    have HBL : Aside0 (w.heap.size ≤ br ∧ br < bz ∧ bz < bo) := ⟨by have h1 := HBZ.out; have h2 := HBR.out; exact ⟨h1.1, h1.2, by omega⟩⟩
    rw [← hW4, ← hbo]
    clear hW4 hbo hb34 hrc HR3 HZ3
    go_wp2
    go_loopg [7] (n3 + 1) (fun gg s7 wx => ∃ (j : Nat), j ≤ n3 ∧ n3 < gg + j ∧ s7 = .int .i64 j ∧ ∃ (l2 : List ND) (A : Option Addr) (c : Nat), Aside0 (l2.length = j ∧ (l2.map ND.con).Perm ((ns.take j).map (toldN nts)) ∧ l2.Pairwise (fun a b => a.id ≤ b.id)) ∧ Aside0 (GBox wx br #[.slice NA n1 nc, .slice EA n2 ec, .slice VA n3 vc, .slice UA n4 uc]) ∧ Aside0 (GBox wx bz #[.slice none 0 0, .slice none 0 0, .slice none 0 0, .slice none 0 0]) ∧ Aside0 (GBox wx bo #[.slice NA n1 nc, .slice EA n2 ec, .slice A j c, .slice none 0 0]) ∧ Aside0 (wx.ownsRow w.heap.size 52 3 (.slice A j c) j (l2.flatMap cellsND)) ∧ Aside0 (∀ y ∈ l2, fineN w wx y) ∧ Aside0 (Below w.heap.size w wx))
    case atStart => exact ⟨0, by omega, by omega, rfl, [], none, 0, ⟨rfl, by simp, List.Pairwise.nil⟩, HR4, HZ4, HO4, ⟨World.ownsRow_nil _ _ _ _⟩, ⟨by simp⟩, HB4⟩
    case round =>
      obtain ⟨j, hj, hg, rfl, l2, A, c, HL, HR, HZ, HO, HW, HGD, HX⟩ := hrel
      have hj0 : (0 : Int) ≤ (j : Int) := by omega
      have hrc := HR.out.cells
      by_cases hjt : j < n3
      · have hjti : (j : Int) < (n3 : Int) := by omega
        have hjl : j < ns.length := by have := HN.out; omega
        have hj9 : j ≤ 2932031007401 := by have := hN; omega
        obtain ⟨pv, hpv, hh⟩ := (HG.out.below HX.out).ns.row j hjl
        simp only at hpv hh
        subst hpv
        have hgx := ReadsG.all_N HG.out.ns _ (getD_in ns ND.zero j hjl)
        have hlab := HF.out.nlab _ (getD_in ns ND.zero j hjl)
        have HTK := Aside0.mk (take_getD ns ND.zero j hjl)
        obtain ⟨x, hx⟩ : ∃ x, x = ns.getD j ND.zero := ⟨_, rfl⟩
        rw [← hx] at hh hgx HTK hlab
        obtain ⟨tl, htl⟩ : ∃ tl, tl = toldL (typeOf nts x.lb.data.toList).ps x.qs := ⟨_, rfl⟩
        have htlb : tl.length < 1000000000000 := by rw [htl]; exact told_small HF.out.nt.2 hlab.1 hlab.2
        obtain ⟨xid, xlb, xA, xqs, xc⟩ := x
        have HGX := Aside0.mk hgx
        have HTL := Aside0.mk (And.intro htl htlb)
        have HLB := Aside0.mk hlab
        have HJ := Aside0.mk (And.intro hjt hg)
        obtain ⟨GJ, hGJ⟩ : ∃ GJ, GJ = gk := ⟨_, rfl⟩
        have HGJ := Aside0.mk hGJ
        rw [← hGJ] at HJ
        obtain ⟨_, _, d0, d1, d2⟩ := hh
        simp only at d0 d1 d2
        simp only at htl
        clear hGJ hx hgx hj hg hjl hlab htlb htl
        go_upto_region 9 with (fail)
        obtain ⟨W5, hW5⟩ : ∃ W5, W5 = wr.alloc (.cells #[.int .i64 xid, .string xlb, .slice xA xqs.length xc] 52) := ⟨_, rfl⟩
        obtain ⟨bx, hbx⟩ : ∃ bx, bx = wr.heap.size := ⟨_, rfl⟩
        have HX5x : Aside0 (NBox W5 bx #[.int .i64 xid, .string xlb, .slice xA xqs.length xc]) := ⟨by rw [hW5, hbx]; exact heap_alloc_new wr _⟩
        have HB5 : Aside0 (Below wr.heap.size wr W5) := ⟨by rw [hW5]; exact below_more (Below.refl _ _) _⟩
        have HBX5 : Aside0 (wr.heap.size ≤ bx) := ⟨by omega⟩
        have HX5 := Aside0.mk (below_then HX.out HB5.out)
        have HBXX : Aside0 (∀ X, Below W5.heap.size W5 X → GBox X br #[.slice NA n1 nc, .slice EA n2 ec, .slice (some pv) n3 vc, .slice UA n4 uc] ∧ NBox X bx #[.int .i64 xid, .string xlb, .slice xA xqs.length xc]) := ⟨fun X h => ⟨gbox_below (gbox_below HR.out HB5.out) h, HX5x.out.below h⟩⟩
        have HSX : Aside0 (∀ X, Below W5.heap.size W5 X → (fun WW : World => Below wr.heap.size wr WW ∧ ∃ q, NBox WW bx #[.int .i64 xid, .string xlb, q]) X) := ⟨fun X h => ⟨below_then HB5.out h, _, HX5x.out.below h⟩⟩
        rw [← hW5, ← hbx]
        clear hW5 hbx d0 d1 d2 hrc
        go_cut [] from 9999 (fun X => ∃ A5 c5, Below wr.heap.size wr X ∧ NBox X bx #[.int .i64 xid, .string xlb, .slice A5 tl.length c5] ∧ X.ownsRow w.heap.size 96 6 (.slice A5 tl.length c5) tl.length (tl.flatMap cellsQD))
        case first =>
          refine wp_region_held_drew (S := (fun WW : World => Below wr.heap.size wr WW ∧ ∃ q, NBox WW bx #[.int .i64 xid, .string xlb, q])) (by kernel_rfl) ?_ (fun hHeld => ?_)
          · exact HSX.out _ (by first | exact Below.refl _ _ | exact (Below.refl _ _).drew | exact (Below.refl _ _).drew.drew)
          refine take_in (i := 0) (v := ?v0s14) rfl (by kernel_rfl) (by kernel_rfl) (by kernel_rfl) (fun _ _ _ h => h) (by rfl) ?hy0s14 (by assumption) ?_
          case hy0s14 => intro WW hSw; go_simp; try with_reducible rfl
          try simp only [Act.put, List.setIfInBounds_toArray, List.set_cons_zero, List.set_cons_succ]
          refine take_in (i := 1) (v := .slice NA n1 nc) rfl (by kernel_rfl) (by kernel_rfl) (by kernel_rfl) (fun _ _ _ h => h) (by rfl) ?hy1s15 (by assumption) ?_
          case hy1s15 => intro WW hSw; obtain ⟨s0, q, s2⟩ := hSw; have s1 := (gbox_below HR.out s0).cells; have s3 := s2.cells; go_simp; try with_reducible rfl
          try simp only [Act.put, List.setIfInBounds_toArray, List.set_cons_zero, List.set_cons_succ]
          refine take_in (i := 2) (v := ?v2s16) rfl (by kernel_rfl) (by kernel_rfl) (by kernel_rfl) (fun _ _ _ h => h) (by rfl) ?hy2s16 (by assumption) ?_
          case hy2s16 => intro WW hSw; go_simp; try with_reducible rfl
          try simp only [Act.put, List.setIfInBounds_toArray, List.set_cons_zero, List.set_cons_succ]
          refine take_in (i := 3) (v := .slice NA n1 nc) rfl (by kernel_rfl) (by kernel_rfl) (by kernel_rfl) (fun _ _ _ h => h) (by rfl) ?hy3s17 (by assumption) ?_
          case hy3s17 => intro WW hSw; obtain ⟨s0, q, s2⟩ := hSw; have s1 := (gbox_below HR.out s0).cells; have s3 := s2.cells; go_simp; try with_reducible rfl
          try simp only [Act.put, List.setIfInBounds_toArray, List.set_cons_zero, List.set_cons_succ]
          refine take_in (i := 4) (v := ?v4s18) rfl (by kernel_rfl) (by kernel_rfl) (by kernel_rfl) (fun _ _ _ h => h) (by rfl) ?hy4s18 (by assumption) ?_
          case hy4s18 => intro WW hSw; go_simp; try with_reducible rfl
          try simp only [Act.put, List.setIfInBounds_toArray, List.set_cons_zero, List.set_cons_succ]
          refine take_in (i := 5) (v := .string xlb) rfl (by kernel_rfl) (by kernel_rfl) (by kernel_rfl) (fun _ _ _ h => h) (by rfl) ?hy5s19 (by assumption) ?_
          case hy5s19 => intro WW hSw; obtain ⟨s0, q, s2⟩ := hSw; have s1 := (gbox_below HR.out s0).cells; have s3 := s2.cells; go_simp; try with_reducible rfl
          try simp only [Act.put, List.setIfInBounds_toArray, List.set_cons_zero, List.set_cons_succ]
          refine take_in (i := 9) (v := ?v9s20) rfl (by kernel_rfl) (by kernel_rfl) (by kernel_rfl) (fun _ _ _ h => h) (by rfl) ?hy9s20 (by assumption) ?_
          case hy9s20 => intro WW hSw; go_simp; try with_reducible rfl
          try simp only [Act.put, List.setIfInBounds_toArray, List.set_cons_zero, List.set_cons_succ]
          refine name_world (F := fun X => Below W5.heap.size W5 X) (by first | exact Below.refl _ _ | exact (Below.refl _ _).drew | exact (Below.refl _ _).drew.drew) (fun Z0 HZ0 => ?_)
          clear hHeld
          have hHeld : (fun WW : World => Below wr.heap.size wr WW ∧ ∃ q, NBox WW bx #[.int .i64 xid, .string xlb, q]) Z0 := HSX.out _ HZ0
          refine two_step (i := 6) (j := 10) (by kernel_rfl) rfl rfl (fun K hK => ?_) (fun K hK => ?_)
          · skip
            have hs := HTYN.out xlb Z0 (below_then HX5.out HZ0)
            go_simp
            go_at_call 31
            go_loud (refine hs.mono ?_)
            rintro e ZT ⟨r, rfl, hans, hb5⟩
            have HZT := below_then HZ0 hb5
            refine hK.out _ _ (HSX.out _ HZT) (fun hHeld => ?_)
            clear hHeld hK K
            try simp only [Act.put, List.setIfInBounds_toArray, List.set_cons_zero, List.set_cons_succ]
            rcases hans with ⟨hno, hr1⟩ | ⟨hyes, ti, hti, hr1, hte⟩
            · exact absurd HLB.out.1 hno
            subst hr1
            have hti0 : (0 : Int) ≤ (ti : Int) := by omega
            have htin : ti < n1 := by have := HN.out; omega
            have htini : (ti : Int) < (n1 : Int) := by omega
            have HYES := Aside0.mk (And.intro hti hte)
            obtain ⟨td, htd, _⟩ := HTRN.out w (Below.refl _ _) ti hti
            subst htd
            obtain ⟨tt, htt⟩ : ∃ tt, tt = typeOf nts xlb.data.toList := ⟨_, rfl⟩
            have htm := typeOf_mem hyes
            rw [← htt] at htm
            have hpp := (HG.out.nts.props tt htm)
            have hTT := htt.symm
            obtain ⟨ts_, tA, tp, tcc⟩ := tt
            simp only at hpp
            have htl2 : tl = toldL tp xqs := by rw [HTL.out.1]; simp only; rw [hTT]
            have HTD : Aside0 (∀ Z, Below W5.heap.size W5 Z → Calls Tryd.prog 30 #[.agg #[.string ts_, .slice tA tp.length tcc], .slice xA xqs.length xc] Z fun e w' => ∃ A2 c2, e = .returned (.slice A2 tl.length c2) ∧ w'.ownsRow Z.heap.size 96 6 (.slice A2 tl.length c2) tl.length (tl.flatMap cellsQD) ∧ Below Z.heap.size Z w') := ⟨fun Z h => by
              have hq := (HGX.out.2).below (below_then HX5.out h)
              have hh := rtold_any ts_ tA tp tcc xqs xA xc Z (hpp.below (below_then HX5.out h)) hq (by rw [← htl2]; exact HTL.out.2)
              rw [← htl2] at hh
              exact hh⟩
            clear htt htm hpp htl2 hyes hti hte
            refine name_world (F := fun X => Below W5.heap.size W5 X) HZT (fun Z0n HZ0n => ?_)
            have hHeld : (fun WW : World => Below wr.heap.size wr WW ∧ ∃ q, NBox WW bx #[.int .i64 xid, .string xlb, q]) Z0n := HSX.out _ HZ0n
            clear HZT hb5 HZ0 hs
            refine take_in (i := 7) (v := .pointer (some (td.add (ti * 2)))) rfl (by kernel_rfl) (by kernel_rfl) (by kernel_rfl) (fun _ _ _ h => h) (by rfl) ?hy7s21 (by assumption) ?_
            case hy7s21 => intro WW hSw; go_simp; try with_reducible rfl
            try simp only [Act.put, List.setIfInBounds_toArray, List.set_cons_zero, List.set_cons_succ]
            refine take_in (i := 8) (v := .agg #[.string ts_, .slice tA tp.length tcc]) rfl (by kernel_rfl) (by kernel_rfl) (by kernel_rfl) (fun _ _ _ h => h) (by rfl) ?hy8s22 (by assumption) ?_
            case hy8s22 => intro WW hSw; obtain ⟨s0, q, s2⟩ := hSw; obtain ⟨td2, e2, s5⟩ := HTRN.out WW (below_then HX.out s0) ti HYES.out.1; cases e2; rw [HYES.out.2, hTT] at s5; obtain ⟨_, _, t0, t1⟩ := s5; simp only at t0 t1; go_simp; try with_reducible rfl
            try simp only [Act.put, List.setIfInBounds_toArray, List.set_cons_zero, List.set_cons_succ]
            refine one_step (i := 10) (by kernel_rfl) rfl (fun K hK => ?_)
            have hxc := (HBXX.out _ HZ0n).2.cells
            go_simp
            refine hK.out _ _ (HSX.out _ HZ0n) (fun hHeld => ?_)
            clear hHeld hK K hxc
            try simp only [Act.put, List.setIfInBounds_toArray, List.set_cons_zero, List.set_cons_succ]
            refine name_world (F := fun X => Below W5.heap.size W5 X) HZ0n (fun Z0nl HZ0nl => ?_)
            have hHeld : (fun WW : World => Below wr.heap.size wr WW ∧ ∃ q, NBox WW bx #[.int .i64 xid, .string xlb, q]) Z0nl := HSX.out _ HZ0nl
            clear HZ0n
            refine name_world (F := fun X => Below W5.heap.size W5 X) (by assumption) (fun Z3 HZ3 => ?_)
            clear hHeld HZ0nl
            have hHeld : (fun WW : World => Below wr.heap.size wr WW ∧ ∃ q, NBox WW bx #[.int .i64 xid, .string xlb, q]) Z3 := HSX.out _ HZ3
            refine one_step (i := 11) (by kernel_rfl) rfl (fun K hK => ?_)
            have hs := HTD.out Z3 HZ3
            go_simp
            go_at_call 30
            go_loud (refine hs.mono ?_)
            rintro e Z4 ⟨A5, c5, rfl, ho5, hb5⟩
            have HZ4 := below_then HZ3 hb5
            have ho6 := own_base ho5 (show w.heap.size ≤ Z3.heap.size from Nat.le_trans HX5.out.size HZ3.size)
            refine hK.out _ _ (HSX.out _ HZ4) (fun hHeld => ?_)
            clear hHeld hK K
            try simp only [Act.put, List.setIfInBounds_toArray, List.set_cons_zero, List.set_cons_succ]
            refine name_world (F := fun X => Below W5.heap.size W5 X ∧ X.ownsRow w.heap.size 96 6 (.slice A5 tl.length c5) tl.length (tl.flatMap cellsQD)) ⟨HZ4, ho6⟩ (fun Z5 hF => ?_)
            obtain ⟨HZ5, ho7⟩ := hF
            have hHeld : (fun WW : World => Below wr.heap.size wr WW ∧ ∃ q, NBox WW bx #[.int .i64 xid, .string xlb, q]) Z5 := HSX.out _ HZ5
            clear HZ4 ho5 ho6 hb5 HZ3 hs
            refine take_in (i := 12) (v := ?v12s23) rfl (by kernel_rfl) (by kernel_rfl) (by kernel_rfl) (fun _ _ _ h => h) (by rfl) ?hy12s23 (by assumption) ?_
            case hy12s23 => intro WW hSw; go_simp; try with_reducible rfl
            try simp only [Act.put, List.setIfInBounds_toArray, List.set_cons_zero, List.set_cons_succ]
            obtain ⟨hb6r, hb6x⟩ := HBXX.out Z5 HZ5
            have hxf : ∀ j, Z5.frozen? ⟨bx, j, none⟩ = false := fun j => Lib.frozen_of_heap hb6x j
            have hxc := hb6x.cells
            refine one_step (i := 13) (by kernel_rfl) rfl (fun K hK => ?_)
            go_simp
            have HBS : Below wr.heap.size wr (Z5.setCell ⟨bx, 2, none⟩ (.slice A5 tl.length c5)) := below_set (below_then HB5.out HZ5) (p := ⟨bx, 2, none⟩) HBX5.out _
            have hput : NBox (Z5.setCell ⟨bx, 2, none⟩ (.slice A5 tl.length c5)) bx #[.int .i64 xid, .string xlb, .slice A5 tl.length c5] := heap_setCell_same Z5 bx 2 _ _ _ hb6x
            have hown : (Z5.setCell ⟨bx, 2, none⟩ (.slice A5 tl.length c5)).ownsRow w.heap.size 96 6 (.slice A5 tl.length c5) tl.length (tl.flatMap cellsQD) := own_keep ho7 (fun k hk => heap_setCell_other _ ⟨bx, 2, none⟩ _ _ (fun e2 => own_tag ho7 hb6x (by decide) (by rw [hk]; exact congrArg some e2)))
            refine hK.out _ _ ⟨HBS, _, hput⟩ (fun hHeld => ?_)
            clear hHeld hK K
            try simp only [Act.put, List.setIfInBounds_toArray, List.set_cons_zero, List.set_cons_succ]
            refine wpAnyH_done (by kernel_rfl) ?_ _
            go_wp2
            go_meet
            case rel => exact ⟨A5, c5, HBS, hput, hown⟩
          · skip
            have hxc := (HBXX.out _ HZ0).2.cells
            go_simp
            refine hK.out _ _ (HSX.out _ HZ0) (fun hHeld => ?_)
            clear hHeld hK K hxc
            try simp only [Act.put, List.setIfInBounds_toArray, List.set_cons_zero, List.set_cons_succ]
            refine name_world (F := fun X => Below W5.heap.size W5 X) HZ0 (fun Z0l HZ0l => ?_)
            have hHeld : (fun WW : World => Below wr.heap.size wr WW ∧ ∃ q, NBox WW bx #[.int .i64 xid, .string xlb, q]) Z0l := HSX.out _ HZ0l
            clear HZ0
            refine one_step (i := 6) (by kernel_rfl) rfl (fun K hK => ?_)
            have hs := HTYN.out xlb Z0l (below_then HX5.out HZ0l)
            go_simp
            go_at_call 31
            go_loud (refine hs.mono ?_)
            rintro e ZT ⟨r, rfl, hans, hb5⟩
            have HZT := below_then HZ0l hb5
            refine hK.out _ _ (HSX.out _ HZT) (fun hHeld => ?_)
            clear hHeld hK K
            try simp only [Act.put, List.setIfInBounds_toArray, List.set_cons_zero, List.set_cons_succ]
            rcases hans with ⟨hno, hr1⟩ | ⟨hyes, ti, hti, hr1, hte⟩
            · exact absurd HLB.out.1 hno
            subst hr1
            have hti0 : (0 : Int) ≤ (ti : Int) := by omega
            have htin : ti < n1 := by have := HN.out; omega
            have htini : (ti : Int) < (n1 : Int) := by omega
            have HYES := Aside0.mk (And.intro hti hte)
            obtain ⟨td, htd, _⟩ := HTRN.out w (Below.refl _ _) ti hti
            subst htd
            obtain ⟨tt, htt⟩ : ∃ tt, tt = typeOf nts xlb.data.toList := ⟨_, rfl⟩
            have htm := typeOf_mem hyes
            rw [← htt] at htm
            have hpp := (HG.out.nts.props tt htm)
            have hTT := htt.symm
            obtain ⟨ts_, tA, tp, tcc⟩ := tt
            simp only at hpp
            have htl2 : tl = toldL tp xqs := by rw [HTL.out.1]; simp only; rw [hTT]
            have HTD : Aside0 (∀ Z, Below W5.heap.size W5 Z → Calls Tryd.prog 30 #[.agg #[.string ts_, .slice tA tp.length tcc], .slice xA xqs.length xc] Z fun e w' => ∃ A2 c2, e = .returned (.slice A2 tl.length c2) ∧ w'.ownsRow Z.heap.size 96 6 (.slice A2 tl.length c2) tl.length (tl.flatMap cellsQD) ∧ Below Z.heap.size Z w') := ⟨fun Z h => by
              have hq := (HGX.out.2).below (below_then HX5.out h)
              have hh := rtold_any ts_ tA tp tcc xqs xA xc Z (hpp.below (below_then HX5.out h)) hq (by rw [← htl2]; exact HTL.out.2)
              rw [← htl2] at hh
              exact hh⟩
            clear htt htm hpp htl2 hyes hti hte
            refine name_world (F := fun X => Below W5.heap.size W5 X) HZT (fun Z0ln HZ0ln => ?_)
            have hHeld : (fun WW : World => Below wr.heap.size wr WW ∧ ∃ q, NBox WW bx #[.int .i64 xid, .string xlb, q]) Z0ln := HSX.out _ HZ0ln
            clear HZT hb5 HZ0l hs
            refine take_in (i := 7) (v := .pointer (some (td.add (ti * 2)))) rfl (by kernel_rfl) (by kernel_rfl) (by kernel_rfl) (fun _ _ _ h => h) (by rfl) ?hy7s24 (by assumption) ?_
            case hy7s24 => intro WW hSw; go_simp; try with_reducible rfl
            try simp only [Act.put, List.setIfInBounds_toArray, List.set_cons_zero, List.set_cons_succ]
            refine take_in (i := 8) (v := .agg #[.string ts_, .slice tA tp.length tcc]) rfl (by kernel_rfl) (by kernel_rfl) (by kernel_rfl) (fun _ _ _ h => h) (by rfl) ?hy8s25 (by assumption) ?_
            case hy8s25 => intro WW hSw; obtain ⟨s0, q, s2⟩ := hSw; obtain ⟨td2, e2, s5⟩ := HTRN.out WW (below_then HX.out s0) ti HYES.out.1; cases e2; rw [HYES.out.2, hTT] at s5; obtain ⟨_, _, t0, t1⟩ := s5; simp only at t0 t1; go_simp; try with_reducible rfl
            try simp only [Act.put, List.setIfInBounds_toArray, List.set_cons_zero, List.set_cons_succ]
            refine name_world (F := fun X => Below W5.heap.size W5 X) (by assumption) (fun Z3 HZ3 => ?_)
            clear hHeld HZ0ln
            have hHeld : (fun WW : World => Below wr.heap.size wr WW ∧ ∃ q, NBox WW bx #[.int .i64 xid, .string xlb, q]) Z3 := HSX.out _ HZ3
            refine one_step (i := 11) (by kernel_rfl) rfl (fun K hK => ?_)
            have hs := HTD.out Z3 HZ3
            go_simp
            go_at_call 30
            go_loud (refine hs.mono ?_)
            rintro e Z4 ⟨A5, c5, rfl, ho5, hb5⟩
            have HZ4 := below_then HZ3 hb5
            have ho6 := own_base ho5 (show w.heap.size ≤ Z3.heap.size from Nat.le_trans HX5.out.size HZ3.size)
            refine hK.out _ _ (HSX.out _ HZ4) (fun hHeld => ?_)
            clear hHeld hK K
            try simp only [Act.put, List.setIfInBounds_toArray, List.set_cons_zero, List.set_cons_succ]
            refine name_world (F := fun X => Below W5.heap.size W5 X ∧ X.ownsRow w.heap.size 96 6 (.slice A5 tl.length c5) tl.length (tl.flatMap cellsQD)) ⟨HZ4, ho6⟩ (fun Z5 hF => ?_)
            obtain ⟨HZ5, ho7⟩ := hF
            have hHeld : (fun WW : World => Below wr.heap.size wr WW ∧ ∃ q, NBox WW bx #[.int .i64 xid, .string xlb, q]) Z5 := HSX.out _ HZ5
            clear HZ4 ho5 ho6 hb5 HZ3 hs
            refine take_in (i := 12) (v := ?v12s26) rfl (by kernel_rfl) (by kernel_rfl) (by kernel_rfl) (fun _ _ _ h => h) (by rfl) ?hy12s26 (by assumption) ?_
            case hy12s26 => intro WW hSw; go_simp; try with_reducible rfl
            try simp only [Act.put, List.setIfInBounds_toArray, List.set_cons_zero, List.set_cons_succ]
            obtain ⟨hb6r, hb6x⟩ := HBXX.out Z5 HZ5
            have hxf : ∀ j, Z5.frozen? ⟨bx, j, none⟩ = false := fun j => Lib.frozen_of_heap hb6x j
            have hxc := hb6x.cells
            refine one_step (i := 13) (by kernel_rfl) rfl (fun K hK => ?_)
            go_simp
            have HBS : Below wr.heap.size wr (Z5.setCell ⟨bx, 2, none⟩ (.slice A5 tl.length c5)) := below_set (below_then HB5.out HZ5) (p := ⟨bx, 2, none⟩) HBX5.out _
            have hput : NBox (Z5.setCell ⟨bx, 2, none⟩ (.slice A5 tl.length c5)) bx #[.int .i64 xid, .string xlb, .slice A5 tl.length c5] := heap_setCell_same Z5 bx 2 _ _ _ hb6x
            have hown : (Z5.setCell ⟨bx, 2, none⟩ (.slice A5 tl.length c5)).ownsRow w.heap.size 96 6 (.slice A5 tl.length c5) tl.length (tl.flatMap cellsQD) := own_keep ho7 (fun k hk => heap_setCell_other _ ⟨bx, 2, none⟩ _ _ (fun e2 => own_tag ho7 hb6x (by decide) (by rw [hk]; exact congrArg some e2)))
            refine hK.out _ _ ⟨HBS, _, hput⟩ (fun hHeld => ?_)
            clear hHeld hK K
            try simp only [Act.put, List.setIfInBounds_toArray, List.set_cons_zero, List.set_cons_succ]
            refine wpAnyH_done (by kernel_rfl) ?_ _
            go_wp2
            go_meet
            case rel => exact ⟨A5, c5, HBS, hput, hown⟩
        case rest =>
          obtain ⟨A5, c5, hb6, hx6, ho6⟩ := hcut
          have HX6 := Aside0.mk (below_then HX.out hb6)
          have HR6 := Aside0.mk (gbox_below HR.out hb6)
          have HZ6 := Aside0.mk (gbox_below HZ.out hb6)
          have HO6 := Aside0.mk (gbox_below HO.out hb6)
          have HW6 := Aside0.mk (own_below HW.out hb6)
          have HGD6 : Aside0 (∀ y ∈ l2, fineN w wc y) := ⟨fun y hy => (HGD.out y hy).below hb6⟩
          have HBX6 := Aside0.mk hx6
          have HY6 : Aside0 (fineN w wc (⟨xid, xlb, A5, tl, c5⟩ : ND)) := ⟨by
            obtain ⟨A6, c6, hv6, hr6, hf6⟩ := readsQ_own_at ho6 (by have := HTL.out.2; omega) (fun q hq => by
              have hq2 : q ∈ xqs := toldL_mem (by have h := HTL.out.1; simp only at h; rw [← h]; exact hq)
              exact (HGX.out.2.all q hq2).below HX6.out)
            cases hv6
            have hp : ∀ q ∈ tl, ReadsI w q.v.A q.v.p := fun q hq => HGX.out.2.path q (toldL_mem (by have h := HTL.out.1; simp only at h; rw [← h]; exact hq))
            exact ⟨⟨HGX.out.1, hr6⟩, hp⟩⟩
          clear hb6 hx6 ho6 HR HZ HO HW HGD HX HBXX HSX HX5x HB5 HBX5 HX5
          have hoc := HO6.out.cells
          go_upto_region 10 with (fail)
          go_wp2
          clear hoc
          go_loopg [9] (j + 1) (fun gg s9 wx => ∃ (a : Nat), a ≤ j ∧ a < gg ∧ s9 = .int .i64 a ∧ Aside0 (∀ k, a ≤ k → k < j → xid < (l2.getD k ND.zero).id) ∧ Aside0 (Below wc.heap.size wc wx))
          case atStart => exact ⟨j, by omega, by omega, rfl, ⟨fun k h1 h2 => by omega⟩, ⟨Below.refl _ _⟩⟩
          case round =>
            obtain ⟨a, ha, hg, rfl, HHI, HV⟩ := hrel
            have ha0 : (0 : Int) ≤ (a : Int) := by omega
            have hai : (a : Int) ≤ (j : Int) := by omega
            have hoc := (gbox_below HO6.out HV.out).cells
            have hxc := (HBX6.out.below HV.out).cells
            obtain ⟨GI, hGI⟩ : ∃ GI, GI = gk := ⟨_, rfl⟩
            have HGI := Aside0.mk hGI
            rw [← hGI] at hg
            have HJ2 := Aside0.mk (And.intro ha hg)
            clear hGI hg
            by_cases h0 : a = 0
            · have h0i : ¬ (0 : Int) < (a : Int) := by omega
              have h0n : ¬ 0 < a := by omega
              have h0d : decide (0 < a) = false := decide_eq_false h0n
              have h0e : decide ((0 : Int) < (a : Int)) = false := decide_eq_false h0i
              have HLO : Aside0 (a = 0 ∨ (l2.getD (a - 1) ND.zero).id ≤ xid) := ⟨.inl h0⟩
              clear h0
              go_upto_region 11 with (fail)
              go_quiet (fail)
              obtain ⟨W7, hW7⟩ : ∃ W7, W7 = wr.drewN nq := ⟨_, rfl⟩
              have HB7 : Aside0 (Below wc.heap.size wc W7) := ⟨by rw [hW7]; exact below_then HV.out (below_q _)⟩
              rw [← hW7]
              clear hW7 hoc hxc
              have HB7W := Aside0.mk (below_then HX6.out HB7.out)
              have HR7 := Aside0.mk (gbox_below HR6.out HB7.out)
              have HZ7 := Aside0.mk (gbox_below HZ6.out HB7.out)
              have HO7 := Aside0.mk (gbox_below HO6.out HB7.out)
              have HW7 := Aside0.mk (own_below HW6.out HB7.out)
              obtain ⟨hc1, hc9, hA0, hs1, A2, c2, hs2, hA2, hrd2⟩ := slice_own_N HW6.out ha
              have hln := HL.out.1
              have hown7 : W7.ownsRow w.heap.size 52 3 (.slice A j c) l2.length (l2.flatMap cellsND) := by rw [hln]; exact HW7.out
              obtain ⟨Ar, cr, hvr, hr7⟩ := readsN_own hown7 (by rw [hln]; have := hN; omega) (fun y hy => ((HGD6.out y hy).below HB7.out).1)
              rw [← (Value.slice.inj hvr).1] at hr7
              clear hvr hown7
              have HR7R := Aside0.mk hr7
              have HRD2 := Aside0.mk hrd2
              have HA2 := Aside0.mk hA2
              have HA0 := Aside0.mk hA0
              have hba := below_more (Below.refl W7.heap.size W7) (.cells #[] 52)
              have HBA := Aside0.mk hba
              have hob : (W7.alloc (.cells #[] 52)).cell? ⟨bo, 2, none⟩ = some (.slice A j c) := (gbox_below HO7.out hba).cells 2
              have hta : a = (l2.take a).length := by rw [List.length_take, hln]; omega
              have HTA := Aside0.mk hta
              have hoe := own_empty_N W7 W7.heap.size (Nat.le_refl _)
              have HOE := Aside0.mk hoe
              clear hrd2 hA2 hA0 hln hr7 hba hta hoe
              go_upto_region 14 with (at_builtin; go_loud (refine app_all_NL rfl (.tmp 73) (.tmp 77) rfl W7.heap.size _ rfl HOE.out A (l2.take a) a c HTA.out rfl HA0.out ((HR7R.out.below HBA.out).take a) (by have := hN; omega) HBA.out.size ?_); intro v1 Z1 hT1 hb1; obtain ⟨A1, c1x, hv1⟩ := own_shape hT1; subst hv1)
              have HZ1a : Aside0 (Below W7.heap.size W7 Z1) := ⟨HBA.out.trans hb1⟩
              have HT1 := Aside0.mk hT1
              have hxz := (HBX6.out.below (below_then HB7.out HZ1a.out)).cells
              clear hT1 hb1 hob
              have HBB := Aside0.mk (below_more (Below.refl Z1.heap.size Z1) (.cells #[.int .i64 xid, .string xlb, .slice A5 tl.length c5] 52))
              have HT1b := Aside0.mk (HT1.out.alloc (.cells #[.int .i64 xid, .string xlb, .slice A5 tl.length c5] 52))
              go_upto_region 15 with (at_builtin; go_loud (refine app_one_NL rfl (.tmp 79) (.tmp 81) rfl W7.heap.size _ a _ rfl HT1b.out Z1.heap.size (⟨xid, xlb, A5, tl, c5⟩ : ND) rfl (heap_alloc_new Z1 _) (by have := hN; omega) (Nat.le_trans HZ1a.out.size HBB.out.size) ?_); intro v2 Z2 hT2 hb2 hg2; obtain ⟨A3, c3x, hv2⟩ := own_shape hT2; subst hv2)
              have HZ2a : Aside0 (Below W7.heap.size W7 Z2) := ⟨(HZ1a.out.trans (HBB.out.mono HZ1a.out.size)).trans hb2⟩
              have HT2 : Aside0 (Z2.ownsRow W7.heap.size 52 3 (.slice A3 (a + 1) c3x) (a + 1) ((l2.take a ++ [(⟨xid, xlb, A5, tl, c5⟩ : ND)]).flatMap cellsND)) := ⟨by rw [List.flatMap_append]; simpa using hT2⟩
              have hoz := (gbox_below HO7.out HZ2a.out).cells
              clear hT2 hb2 hg2 hxz
              have HDL : Aside0 (j - a = (l2.drop a).length) := ⟨by rw [List.length_drop, HL.out.1]⟩
              go_upto_region 7 with (at_builtin; go_loud (refine app_list_N rfl (.tmp 83) (.tmp 87) rfl W7.heap.size _ (a + 1) (l2.take a ++ [(⟨xid, xlb, A5, tl, c5⟩ : ND)]) rfl HT2.out A2 (l2.drop a) (j - a) c2 HDL.out rfl HA2.out (HRD2.out Z2 l2 HL.out.1 (HR7R.out.below HZ2a.out)) (by have := hN; omega) HZ2a.out.size ?_); intro v3 Z3 hT3 hb3 hg3; obtain ⟨A4, c4, hv3⟩ := own_shape hT3; subst hv3; have hb73 := HZ2a.out.trans hb3; have hfz := (gbox_below HO7.out hb73).free; have hcl := (gbox_below HO7.out hb73).cells)
              have HZ3a : Aside0 (Below W7.heap.size W7 Z3) := ⟨HZ2a.out.trans hb3⟩
              have hcount : a + 1 + (j - a) = j + 1 := by omega
              rw [hcount] at hT3 ⊢
              have HT3 := Aside0.mk hT3
              obtain ⟨Z4, hZ4⟩ : ∃ Z4, Z4 = Z3.setCell ⟨bo, 2, none⟩ (.slice A4 (j + 1) c4) := ⟨_, rfl⟩
              have HO3 := Aside0.mk (gbox_below HO7.out HZ3a.out)
              have HO4 : Aside0 (GBox Z4 bo #[.slice NA n1 nc, .slice EA n2 ec, .slice A4 (j + 1) c4, .slice none 0 0]) := ⟨by rw [hZ4]; exact GBox.put HO3.out 2 _⟩
              have hk4 : ∀ k, k ≠ bo → Z4.heap[k]? = Z3.heap[k]? := fun k h => by rw [hZ4]; exact heap_setCell_other _ ⟨bo, 2, none⟩ _ _ h
              have HR4 : Aside0 (GBox Z4 br #[.slice NA n1 nc, .slice EA n2 ec, .slice (some pv) n3 vc, .slice UA n4 uc]) := ⟨(hk4 br (by have := HBL.out; omega)).trans (gbox_below HR7.out HZ3a.out)⟩
              have HZ4 : Aside0 (GBox Z4 bz #[.slice none 0 0, .slice none 0 0, .slice none 0 0, .slice none 0 0]) := ⟨(hk4 bz (by have := HBL.out; omega)).trans (gbox_below HZ7.out HZ3a.out)⟩
              have hl4 := below_set (below_then HB7W.out HZ3a.out) (p := ⟨bo, 2, none⟩) (by have := HBL.out; show w.heap.size ≤ bo; omega) (.slice A4 (j + 1) c4)
              have HX4 : Aside0 (Below w.heap.size w Z4) := ⟨by rw [hZ4]; exact hl4⟩
              have HW4 : Aside0 (Z4.ownsRow w.heap.size 52 3 (.slice A4 (j + 1) c4) (j + 1) ((l2.take a ++ [(⟨xid, xlb, A5, tl, c5⟩ : ND)] ++ l2.drop a).flatMap cellsND)) := ⟨by rw [hZ4]; exact own_set_raw (own_base HT3.out HB7W.out.size) HO3.out (by decide)⟩
              have HL4 : Aside0 ((l2.take a ++ [(⟨xid, xlb, A5, tl, c5⟩ : ND)] ++ l2.drop a).length = j + 1 ∧ ((l2.take a ++ [(⟨xid, xlb, A5, tl, c5⟩ : ND)] ++ l2.drop a).map ND.con).Perm ((ns.take (j + 1)).map (toldN nts)) ∧ (l2.take a ++ [(⟨xid, xlb, A5, tl, c5⟩ : ND)] ++ l2.drop a).Pairwise (fun a b => a.id ≤ b.id)) := ⟨by
                refine ⟨by have := HL.out.1; simp; omega, ?_, ins_sorted ND.id ND.zero l2 _ a (by rw [HL.out.1]; exact ha) HL.out.2.2 HLO.out (fun k h1 h2 => HHI.out k h1 (by rw [← HL.out.1]; exact h2))⟩
                rw [HTK.out]
                refine ((put_in_N l2 (⟨xid, xlb, A5, tl, c5⟩ : ND) a).map ND.con).trans ?_
                rw [List.map_cons, List.map_append]
                have e : ND.con (⟨xid, xlb, A5, tl, c5⟩ : ND) = toldN nts (⟨xid, xlb, xA, xqs, xc⟩ : ND) := by
                  have h := HTL.out.1
                  try simp only at h
                  show (xid, xlb, tl) = (xid, xlb, toldL (typeOf nts xlb.data.toList).ps xqs)
                  rw [h]
                rw [e]
                exact (List.Perm.cons _ HL.out.2.1).trans (List.perm_append_comm (l₁ := [_]) (l₂ := (ns.take j).map (toldN nts)))⟩
              have HGD4 : Aside0 (∀ y ∈ l2.take a ++ [(⟨xid, xlb, A5, tl, c5⟩ : ND)] ++ l2.drop a, fineN w Z4 y) := ⟨fun y hy => by
                have hy2 : y = (⟨xid, xlb, A5, tl, c5⟩ : ND) ∨ y ∈ l2 := by
                  rcases List.mem_append.1 hy with hy | hy
                  · rcases List.mem_append.1 hy with hy | hy
                    · exact .inr (List.mem_of_mem_take hy)
                    · exact .inl (List.mem_singleton.1 hy)
                  · exact .inr (List.mem_of_mem_drop hy)
                have hf : fineN w wc y := by
                  rcases hy2 with h | h
                  · rw [h]
                    exact HY6.out
                  · exact HGD6.out y h
                rw [hZ4]
                exact (hf.below (below_then HB7.out HZ3a.out)).set HO3.out (slices4 _ _ _ _ _ _ _ _ _ _ _ _) hl4⟩
              rw [← hZ4]
              clear hT3 hb3 hg3 hb73 hfz hcl hZ4 hk4 hcount hoz hs1 hs2 hl4
              go_wp2
              go_roundg (GJ - 1)
              case measure => have := HJ.out; have := HGJ.out; omega
              case rel => exact ⟨j + 1, by have := HJ.out; omega, by have := HJ.out; omega, by first | rfl | go_num, _, A4, c4, HL4, HR4, HZ4, HO4, HW4, HGD4, HX4⟩
            · have h0i : (0 : Int) < (a : Int) := by omega
              have h0n : 0 < a := by omega
              have h0d : decide (0 < a) = true := decide_eq_true h0n
              have h0e : decide ((0 : Int) < (a : Int)) = true := decide_eq_true h0i
              obtain ⟨b, hb⟩ : ∃ b, b = a - 1 := ⟨_, rfl⟩
              have hbi : (a : Int) - 1 = (b : Int) := by omega
              have hb0 : (0 : Int) ≤ (b : Int) := by omega
              have hbj : b < j := by omega
              have hbji : (b : Int) < (j : Int) := by omega
              have hbw : IntKind.i64.wrap ((a : Int) - 1) = (b : Int) := by rw [IntKind.wrap_i64, hbi]; omega
              obtain ⟨g, hAg, hid⟩ := own_id_N (own_below HW6.out HV.out) hbj HL.out.1.symm
              subst hAg
              obtain ⟨z, hz⟩ : ∃ z, z = (l2.getD b ND.zero).id := ⟨_, rfl⟩
              rw [← hz] at hid
              have HZB := Aside0.mk (And.intro hb hz)
              have hid2 : wr.cell? ⟨g, 0 + b * 3, none⟩ = some (.int .i64 z) := by rw [Nat.zero_add]; exact hid
              have hid3 : wr.cell? ((⟨g, 0, none⟩ : Addr).add (b * 3)) = some (.int .i64 z) := by rw [add_addr]; exact hid2
              clear hb hz h0
              by_cases hcmp : xid < z
              · go_upto_region 11 with (fail)
                go_quiet (fail)
                obtain ⟨W7, hW7⟩ : ∃ W7, W7 = wr.drewN nq := ⟨_, rfl⟩
                have HB7 : Aside0 (Below wc.heap.size wc W7) := ⟨by rw [hW7]; exact below_then HV.out (below_q _)⟩
                rw [← hW7]
                have HH2 : Aside0 (∀ k, b ≤ k → k < j → xid < (l2.getD k ND.zero).id) := ⟨fun k h1 h2 => by
                  by_cases e : k = b
                  · rw [e, ← HZB.out.2]
                    exact hcmp
                  · exact HHI.out k (by have := HZB.out.1; have := HJ2.out; omega) h2⟩
                clear hW7 hid hid2 hid3 hoc hxc
                go_wp2
                go_roundg (GI - 1)
                case measure => have := HJ2.out; have := HGI.out; omega
                case rel => exact ⟨b, by omega, by have := HJ2.out; have := HZB.out.1; omega, by first | rfl | go_num, HH2, HB7⟩
              · have hcmp2 : z ≤ xid := by omega
                have HLO : Aside0 (a = 0 ∨ (l2.getD (a - 1) ND.zero).id ≤ xid) := ⟨.inr (by rw [← HZB.out.1, ← HZB.out.2]; exact hcmp2)⟩
                go_upto_region 11 with (fail)
                go_quiet (fail)
                clear hid hid2 hid3
                obtain ⟨W7, hW7⟩ : ∃ W7, W7 = wr.drewN nq := ⟨_, rfl⟩
                have HB7 : Aside0 (Below wc.heap.size wc W7) := ⟨by rw [hW7]; exact below_then HV.out (below_q _)⟩
                rw [← hW7]
                clear hW7 hoc hxc
                have HB7W := Aside0.mk (below_then HX6.out HB7.out)
                have HR7 := Aside0.mk (gbox_below HR6.out HB7.out)
                have HZ7 := Aside0.mk (gbox_below HZ6.out HB7.out)
                have HO7 := Aside0.mk (gbox_below HO6.out HB7.out)
                have HW7 := Aside0.mk (own_below HW6.out HB7.out)
                obtain ⟨hc1, hc9, hA0, hs1, A2, c2, hs2, hA2, hrd2⟩ := slice_own_N HW6.out ha
                have hln := HL.out.1
                have hown7 : W7.ownsRow w.heap.size 52 3 (.slice (some ⟨g, 0, none⟩) j c) l2.length (l2.flatMap cellsND) := by rw [hln]; exact HW7.out
                obtain ⟨Ar, cr, hvr, hr7⟩ := readsN_own hown7 (by rw [hln]; have := hN; omega) (fun y hy => ((HGD6.out y hy).below HB7.out).1)
                rw [← (Value.slice.inj hvr).1] at hr7
                clear hvr hown7
                have HR7R := Aside0.mk hr7
                have HRD2 := Aside0.mk hrd2
                have HA2 := Aside0.mk hA2
                have HA0 := Aside0.mk hA0
                have hba := below_more (Below.refl W7.heap.size W7) (.cells #[] 52)
                have HBA := Aside0.mk hba
                have hob : (W7.alloc (.cells #[] 52)).cell? ⟨bo, 2, none⟩ = some (.slice (some ⟨g, 0, none⟩) j c) := (gbox_below HO7.out hba).cells 2
                have hta : a = (l2.take a).length := by rw [List.length_take, hln]; omega
                have HTA := Aside0.mk hta
                have hoe := own_empty_N W7 W7.heap.size (Nat.le_refl _)
                have HOE := Aside0.mk hoe
                clear hrd2 hA2 hA0 hln hr7 hba hta hoe
                go_upto_region 14 with (at_builtin; go_loud (refine app_all_NL rfl (.tmp 73) (.tmp 77) rfl W7.heap.size _ rfl HOE.out (some ⟨g, 0, none⟩) (l2.take a) a c HTA.out rfl HA0.out ((HR7R.out.below HBA.out).take a) (by have := hN; omega) HBA.out.size ?_); intro v1 Z1 hT1 hb1; obtain ⟨A1, c1x, hv1⟩ := own_shape hT1; subst hv1)
                have HZ1a : Aside0 (Below W7.heap.size W7 Z1) := ⟨HBA.out.trans hb1⟩
                have HT1 := Aside0.mk hT1
                have hxz := (HBX6.out.below (below_then HB7.out HZ1a.out)).cells
                clear hT1 hb1 hob
                have HBB := Aside0.mk (below_more (Below.refl Z1.heap.size Z1) (.cells #[.int .i64 xid, .string xlb, .slice A5 tl.length c5] 52))
                have HT1b := Aside0.mk (HT1.out.alloc (.cells #[.int .i64 xid, .string xlb, .slice A5 tl.length c5] 52))
                go_upto_region 15 with (at_builtin; go_loud (refine app_one_NL rfl (.tmp 79) (.tmp 81) rfl W7.heap.size _ a _ rfl HT1b.out Z1.heap.size (⟨xid, xlb, A5, tl, c5⟩ : ND) rfl (heap_alloc_new Z1 _) (by have := hN; omega) (Nat.le_trans HZ1a.out.size HBB.out.size) ?_); intro v2 Z2 hT2 hb2 hg2; obtain ⟨A3, c3x, hv2⟩ := own_shape hT2; subst hv2)
                have HZ2a : Aside0 (Below W7.heap.size W7 Z2) := ⟨(HZ1a.out.trans (HBB.out.mono HZ1a.out.size)).trans hb2⟩
                have HT2 : Aside0 (Z2.ownsRow W7.heap.size 52 3 (.slice A3 (a + 1) c3x) (a + 1) ((l2.take a ++ [(⟨xid, xlb, A5, tl, c5⟩ : ND)]).flatMap cellsND)) := ⟨by rw [List.flatMap_append]; simpa using hT2⟩
                have hoz := (gbox_below HO7.out HZ2a.out).cells
                clear hT2 hb2 hg2 hxz
                have HDL : Aside0 (j - a = (l2.drop a).length) := ⟨by rw [List.length_drop, HL.out.1]⟩
                go_upto_region 7 with (at_builtin; go_loud (refine app_list_N rfl (.tmp 83) (.tmp 87) rfl W7.heap.size _ (a + 1) (l2.take a ++ [(⟨xid, xlb, A5, tl, c5⟩ : ND)]) rfl HT2.out A2 (l2.drop a) (j - a) c2 HDL.out rfl HA2.out (HRD2.out Z2 l2 HL.out.1 (HR7R.out.below HZ2a.out)) (by have := hN; omega) HZ2a.out.size ?_); intro v3 Z3 hT3 hb3 hg3; obtain ⟨A4, c4, hv3⟩ := own_shape hT3; subst hv3; have hb73 := HZ2a.out.trans hb3; have hfz := (gbox_below HO7.out hb73).free; have hcl := (gbox_below HO7.out hb73).cells)
                have HZ3a : Aside0 (Below W7.heap.size W7 Z3) := ⟨HZ2a.out.trans hb3⟩
                have hcount : a + 1 + (j - a) = j + 1 := by omega
                rw [hcount] at hT3 ⊢
                have HT3 := Aside0.mk hT3
                obtain ⟨Z4, hZ4⟩ : ∃ Z4, Z4 = Z3.setCell ⟨bo, 2, none⟩ (.slice A4 (j + 1) c4) := ⟨_, rfl⟩
                have HO3 := Aside0.mk (gbox_below HO7.out HZ3a.out)
                have HO4 : Aside0 (GBox Z4 bo #[.slice NA n1 nc, .slice EA n2 ec, .slice A4 (j + 1) c4, .slice none 0 0]) := ⟨by rw [hZ4]; exact GBox.put HO3.out 2 _⟩
                have hk4 : ∀ k, k ≠ bo → Z4.heap[k]? = Z3.heap[k]? := fun k h => by rw [hZ4]; exact heap_setCell_other _ ⟨bo, 2, none⟩ _ _ h
                have HR4 : Aside0 (GBox Z4 br #[.slice NA n1 nc, .slice EA n2 ec, .slice (some pv) n3 vc, .slice UA n4 uc]) := ⟨(hk4 br (by have := HBL.out; omega)).trans (gbox_below HR7.out HZ3a.out)⟩
                have HZ4 : Aside0 (GBox Z4 bz #[.slice none 0 0, .slice none 0 0, .slice none 0 0, .slice none 0 0]) := ⟨(hk4 bz (by have := HBL.out; omega)).trans (gbox_below HZ7.out HZ3a.out)⟩
                have hl4 := below_set (below_then HB7W.out HZ3a.out) (p := ⟨bo, 2, none⟩) (by have := HBL.out; show w.heap.size ≤ bo; omega) (.slice A4 (j + 1) c4)
                have HX4 : Aside0 (Below w.heap.size w Z4) := ⟨by rw [hZ4]; exact hl4⟩
                have HW4 : Aside0 (Z4.ownsRow w.heap.size 52 3 (.slice A4 (j + 1) c4) (j + 1) ((l2.take a ++ [(⟨xid, xlb, A5, tl, c5⟩ : ND)] ++ l2.drop a).flatMap cellsND)) := ⟨by rw [hZ4]; exact own_set_raw (own_base HT3.out HB7W.out.size) HO3.out (by decide)⟩
                have HL4 : Aside0 ((l2.take a ++ [(⟨xid, xlb, A5, tl, c5⟩ : ND)] ++ l2.drop a).length = j + 1 ∧ ((l2.take a ++ [(⟨xid, xlb, A5, tl, c5⟩ : ND)] ++ l2.drop a).map ND.con).Perm ((ns.take (j + 1)).map (toldN nts)) ∧ (l2.take a ++ [(⟨xid, xlb, A5, tl, c5⟩ : ND)] ++ l2.drop a).Pairwise (fun a b => a.id ≤ b.id)) := ⟨by
                  refine ⟨by have := HL.out.1; simp; omega, ?_, ins_sorted ND.id ND.zero l2 _ a (by rw [HL.out.1]; exact ha) HL.out.2.2 HLO.out (fun k h1 h2 => HHI.out k h1 (by rw [← HL.out.1]; exact h2))⟩
                  rw [HTK.out]
                  refine ((put_in_N l2 (⟨xid, xlb, A5, tl, c5⟩ : ND) a).map ND.con).trans ?_
                  rw [List.map_cons, List.map_append]
                  have e : ND.con (⟨xid, xlb, A5, tl, c5⟩ : ND) = toldN nts (⟨xid, xlb, xA, xqs, xc⟩ : ND) := by
                    have h := HTL.out.1
                    try simp only at h
                    show (xid, xlb, tl) = (xid, xlb, toldL (typeOf nts xlb.data.toList).ps xqs)
                    rw [h]
                  rw [e]
                  exact (List.Perm.cons _ HL.out.2.1).trans (List.perm_append_comm (l₁ := [_]) (l₂ := (ns.take j).map (toldN nts)))⟩
                have HGD4 : Aside0 (∀ y ∈ l2.take a ++ [(⟨xid, xlb, A5, tl, c5⟩ : ND)] ++ l2.drop a, fineN w Z4 y) := ⟨fun y hy => by
                  have hy2 : y = (⟨xid, xlb, A5, tl, c5⟩ : ND) ∨ y ∈ l2 := by
                    rcases List.mem_append.1 hy with hy | hy
                    · rcases List.mem_append.1 hy with hy | hy
                      · exact .inr (List.mem_of_mem_take hy)
                      · exact .inl (List.mem_singleton.1 hy)
                    · exact .inr (List.mem_of_mem_drop hy)
                  have hf : fineN w wc y := by
                    rcases hy2 with h | h
                    · rw [h]
                      exact HY6.out
                    · exact HGD6.out y h
                  rw [hZ4]
                  exact (hf.below (below_then HB7.out HZ3a.out)).set HO3.out (slices4 _ _ _ _ _ _ _ _ _ _ _ _) hl4⟩
                rw [← hZ4]
                clear hT3 hb3 hg3 hb73 hfz hcl hZ4 hk4 hcount hoz hs1 hs2 hl4
                go_wp2
                go_roundg (GJ - 1)
                case measure => have := HJ.out; have := HGJ.out; omega
                case rel => exact ⟨j + 1, by have := HJ.out; omega, by have := HJ.out; omega, by first | rfl | go_num, _, A4, c4, HL4, HR4, HZ4, HO4, HW4, HGD4, HX4⟩
      · have hjn : j = n3 := by omega
        subst j
        obtain ⟨wd, rfl⟩ : ∃ wd : World, wd = wr := ⟨_, rfl⟩
        obtain ⟨An, rfl⟩ : ∃ An : Option Addr, An = A := ⟨_, rfl⟩
        obtain ⟨cn, rfl⟩ : ∃ cn : Nat, cn = c := ⟨_, rfl⟩
        obtain ⟨ln, rfl⟩ : ∃ ln : List ND, ln = l2 := ⟨_, rfl⟩
        have HLN := HL
        have HRD := HR
        have HZD := HZ
        have HOD := HO
        have HWND := HW
        have HGND := HGD
        have HXD := HX
        clear HL HR HZ HO HW HGD HX hj hg hj0 hjt
        go_wp2
        clear hrc
        go_loopg [11] (n4 + 1) (fun gg s11 wx => ∃ (j : Nat), j ≤ n4 ∧ n4 < gg + j ∧ s11 = .int .i64 j ∧ ∃ (l2 : List ED) (A : Option Addr) (c : Nat), Aside0 (l2.length = j ∧ (l2.map ED.con).Perm ((es.take j).map (toldE ets)) ∧ l2.Pairwise (fun a b => a.id ≤ b.id)) ∧ Aside0 (GBox wx br #[.slice NA n1 nc, .slice EA n2 ec, .slice VA n3 vc, .slice UA n4 uc]) ∧ Aside0 (GBox wx bz #[.slice none 0 0, .slice none 0 0, .slice none 0 0, .slice none 0 0]) ∧ Aside0 (GBox wx bo #[.slice NA n1 nc, .slice EA n2 ec, .slice An n3 cn, .slice A j c]) ∧ Aside0 (wx.ownsRow w.heap.size 55 5 (.slice A j c) j (l2.flatMap cellsED)) ∧ Aside0 (∀ y ∈ l2, fineE w wx y) ∧ Aside0 (wx.ownsRow w.heap.size 52 3 (.slice An n3 cn) n3 (ln.flatMap cellsND)) ∧ Aside0 (∀ y ∈ ln, fineN w wx y) ∧ Aside0 (Below w.heap.size w wx))
        case atStart => exact ⟨0, by omega, by omega, rfl, [], none, 0, ⟨rfl, by simp, List.Pairwise.nil⟩, HRD, HZD, HOD, ⟨World.ownsRow_nil _ _ _ _⟩, ⟨by simp⟩, HWND, HGND, HXD⟩
        case round =>
          obtain ⟨j, hj, hg, rfl, l2, A, c, HL, HR, HZ, HO, HW, HGD, HWN, HGN, HX⟩ := hrel
          have hj0 : (0 : Int) ≤ (j : Int) := by omega
          have hrc := HR.out.cells
          by_cases hjt : j < n4
          · have hjti : (j : Int) < (n4 : Int) := by omega
            have hjl : j < es.length := by have := HN.out; omega
            have hj9 : j ≤ 2932031007401 := by have := hN; omega
            obtain ⟨pv, hpv, hh⟩ := (HG.out.below HX.out).es.row j hjl
            simp only at hpv hh
            subst hpv
            have hgx := ReadsG.all_E HG.out.es _ (getD_in es ED.zero j hjl)
            have hlab := HF.out.elab_ _ (getD_in es ED.zero j hjl)
            have HTK := Aside0.mk (take_getD es ED.zero j hjl)
            obtain ⟨x, hx⟩ : ∃ x, x = es.getD j ED.zero := ⟨_, rfl⟩
            rw [← hx] at hh hgx HTK hlab
            obtain ⟨tl, htl⟩ : ∃ tl, tl = toldL (typeOf ets x.lb.data.toList).ps x.qs := ⟨_, rfl⟩
            have htlb : tl.length < 1000000000000 := by rw [htl]; exact told_small HF.out.et.2 hlab.1 hlab.2
            obtain ⟨xid, xlb, xf, xt, xA, xqs, xc⟩ := x
            have HGX := Aside0.mk hgx
            have HTL := Aside0.mk (And.intro htl htlb)
            have HLB := Aside0.mk hlab
            have HJ := Aside0.mk (And.intro hjt hg)
            obtain ⟨GJ, hGJ⟩ : ∃ GJ, GJ = gk := ⟨_, rfl⟩
            have HGJ := Aside0.mk hGJ
            rw [← hGJ] at HJ
            obtain ⟨_, _, d0, d1, d2, d3, d4⟩ := hh
            simp only at d0 d1 d2 d3 d4
            simp only at htl
            clear hGJ hx hgx hj hg hjl hlab htlb htl
            go_upto_region 20 with (fail)
            obtain ⟨W5, hW5⟩ : ∃ W5, W5 = wr.alloc (.cells #[.int .i64 xid, .string xlb, .int .i64 xf, .int .i64 xt, .slice xA xqs.length xc] 55) := ⟨_, rfl⟩
            obtain ⟨bx, hbx⟩ : ∃ bx, bx = wr.heap.size := ⟨_, rfl⟩
            have HX5x : Aside0 (EBox W5 bx #[.int .i64 xid, .string xlb, .int .i64 xf, .int .i64 xt, .slice xA xqs.length xc]) := ⟨by rw [hW5, hbx]; exact heap_alloc_new wr _⟩
            have HB5 : Aside0 (Below wr.heap.size wr W5) := ⟨by rw [hW5]; exact below_more (Below.refl _ _) _⟩
            have HBX5 : Aside0 (wr.heap.size ≤ bx) := ⟨by omega⟩
            have HX5 := Aside0.mk (below_then HX.out HB5.out)
            have HBXX : Aside0 (∀ X, Below W5.heap.size W5 X → GBox X br #[.slice NA n1 nc, .slice EA n2 ec, .slice VA n3 vc, .slice (some pv) n4 uc] ∧ EBox X bx #[.int .i64 xid, .string xlb, .int .i64 xf, .int .i64 xt, .slice xA xqs.length xc]) := ⟨fun X h => ⟨gbox_below (gbox_below HR.out HB5.out) h, HX5x.out.below h⟩⟩
            have HSX : Aside0 (∀ X, Below W5.heap.size W5 X → (fun WW : World => Below wr.heap.size wr WW ∧ ∃ q, EBox WW bx #[.int .i64 xid, .string xlb, .int .i64 xf, .int .i64 xt, q]) X) := ⟨fun X h => ⟨below_then HB5.out h, _, HX5x.out.below h⟩⟩
            rw [← hW5, ← hbx]
            clear hW5 hbx d0 d1 d2 d3 d4 hrc
            go_cut [] from 9999 (fun X => ∃ A5 c5, Below wr.heap.size wr X ∧ EBox X bx #[.int .i64 xid, .string xlb, .int .i64 xf, .int .i64 xt, .slice A5 tl.length c5] ∧ X.ownsRow w.heap.size 96 6 (.slice A5 tl.length c5) tl.length (tl.flatMap cellsQD))
            case first =>
              refine wp_region_held_drew (S := (fun WW : World => Below wr.heap.size wr WW ∧ ∃ q, EBox WW bx #[.int .i64 xid, .string xlb, .int .i64 xf, .int .i64 xt, q])) (by kernel_rfl) ?_ (fun hHeld => ?_)
              · exact HSX.out _ (by first | exact Below.refl _ _ | exact (Below.refl _ _).drew | exact (Below.refl _ _).drew.drew)
              refine take_in (i := 0) (v := ?v0s1) rfl (by kernel_rfl) (by kernel_rfl) (by kernel_rfl) (fun _ _ _ h => h) (by rfl) ?hy0s1 (by assumption) ?_
              case hy0s1 => intro WW hSw; go_simp; try with_reducible rfl
              try simp only [Act.put, List.setIfInBounds_toArray, List.set_cons_zero, List.set_cons_succ]
              refine take_in (i := 1) (v := .slice EA n2 ec) rfl (by kernel_rfl) (by kernel_rfl) (by kernel_rfl) (fun _ _ _ h => h) (by rfl) ?hy1s2 (by assumption) ?_
              case hy1s2 => intro WW hSw; obtain ⟨s0, q, s2⟩ := hSw; have s1 := (gbox_below HR.out s0).cells; have s3 := s2.cells; go_simp; try with_reducible rfl
              try simp only [Act.put, List.setIfInBounds_toArray, List.set_cons_zero, List.set_cons_succ]
              refine take_in (i := 2) (v := ?v2s3) rfl (by kernel_rfl) (by kernel_rfl) (by kernel_rfl) (fun _ _ _ h => h) (by rfl) ?hy2s3 (by assumption) ?_
              case hy2s3 => intro WW hSw; go_simp; try with_reducible rfl
              try simp only [Act.put, List.setIfInBounds_toArray, List.set_cons_zero, List.set_cons_succ]
              refine take_in (i := 3) (v := .slice EA n2 ec) rfl (by kernel_rfl) (by kernel_rfl) (by kernel_rfl) (fun _ _ _ h => h) (by rfl) ?hy3s4 (by assumption) ?_
              case hy3s4 => intro WW hSw; obtain ⟨s0, q, s2⟩ := hSw; have s1 := (gbox_below HR.out s0).cells; have s3 := s2.cells; go_simp; try with_reducible rfl
              try simp only [Act.put, List.setIfInBounds_toArray, List.set_cons_zero, List.set_cons_succ]
              refine take_in (i := 4) (v := ?v4s5) rfl (by kernel_rfl) (by kernel_rfl) (by kernel_rfl) (fun _ _ _ h => h) (by rfl) ?hy4s5 (by assumption) ?_
              case hy4s5 => intro WW hSw; go_simp; try with_reducible rfl
              try simp only [Act.put, List.setIfInBounds_toArray, List.set_cons_zero, List.set_cons_succ]
              refine take_in (i := 5) (v := .string xlb) rfl (by kernel_rfl) (by kernel_rfl) (by kernel_rfl) (fun _ _ _ h => h) (by rfl) ?hy5s6 (by assumption) ?_
              case hy5s6 => intro WW hSw; obtain ⟨s0, q, s2⟩ := hSw; have s1 := (gbox_below HR.out s0).cells; have s3 := s2.cells; go_simp; try with_reducible rfl
              try simp only [Act.put, List.setIfInBounds_toArray, List.set_cons_zero, List.set_cons_succ]
              refine take_in (i := 9) (v := ?v9s7) rfl (by kernel_rfl) (by kernel_rfl) (by kernel_rfl) (fun _ _ _ h => h) (by rfl) ?hy9s7 (by assumption) ?_
              case hy9s7 => intro WW hSw; go_simp; try with_reducible rfl
              try simp only [Act.put, List.setIfInBounds_toArray, List.set_cons_zero, List.set_cons_succ]
              refine name_world (F := fun X => Below W5.heap.size W5 X) (by first | exact Below.refl _ _ | exact (Below.refl _ _).drew | exact (Below.refl _ _).drew.drew) (fun Z0 HZ0 => ?_)
              clear hHeld
              have hHeld : (fun WW : World => Below wr.heap.size wr WW ∧ ∃ q, EBox WW bx #[.int .i64 xid, .string xlb, .int .i64 xf, .int .i64 xt, q]) Z0 := HSX.out _ HZ0
              refine two_step (i := 6) (j := 10) (by kernel_rfl) rfl rfl (fun K hK => ?_) (fun K hK => ?_)
              · skip
                have hs := HTYE.out xlb Z0 (below_then HX5.out HZ0)
                go_simp
                go_at_call 31
                go_loud (refine hs.mono ?_)
                rintro e ZT ⟨r, rfl, hans, hb5⟩
                have HZT := below_then HZ0 hb5
                refine hK.out _ _ (HSX.out _ HZT) (fun hHeld => ?_)
                clear hHeld hK K
                try simp only [Act.put, List.setIfInBounds_toArray, List.set_cons_zero, List.set_cons_succ]
                rcases hans with ⟨hno, hr1⟩ | ⟨hyes, ti, hti, hr1, hte⟩
                · exact absurd HLB.out.1 hno
                subst hr1
                have hti0 : (0 : Int) ≤ (ti : Int) := by omega
                have htin : ti < n2 := by have := HN.out; omega
                have htini : (ti : Int) < (n2 : Int) := by omega
                have HYES := Aside0.mk (And.intro hti hte)
                obtain ⟨td, htd, _⟩ := HTRE.out w (Below.refl _ _) ti hti
                subst htd
                obtain ⟨tt, htt⟩ : ∃ tt, tt = typeOf ets xlb.data.toList := ⟨_, rfl⟩
                have htm := typeOf_mem hyes
                rw [← htt] at htm
                have hpp := (HG.out.ets.props tt htm)
                have hTT := htt.symm
                obtain ⟨ts_, tA, tp, tcc⟩ := tt
                simp only at hpp
                have htl2 : tl = toldL tp xqs := by rw [HTL.out.1]; simp only; rw [hTT]
                have HTD : Aside0 (∀ Z, Below W5.heap.size W5 Z → Calls Tryd.prog 30 #[.agg #[.string ts_, .slice tA tp.length tcc], .slice xA xqs.length xc] Z fun e w' => ∃ A2 c2, e = .returned (.slice A2 tl.length c2) ∧ w'.ownsRow Z.heap.size 96 6 (.slice A2 tl.length c2) tl.length (tl.flatMap cellsQD) ∧ Below Z.heap.size Z w') := ⟨fun Z h => by
                  have hq := (HGX.out.2.2).below (below_then HX5.out h)
                  have hh := rtold_any ts_ tA tp tcc xqs xA xc Z (hpp.below (below_then HX5.out h)) hq (by rw [← htl2]; exact HTL.out.2)
                  rw [← htl2] at hh
                  exact hh⟩
                clear htt htm hpp htl2 hyes hti hte
                refine name_world (F := fun X => Below W5.heap.size W5 X) HZT (fun Z0n HZ0n => ?_)
                have hHeld : (fun WW : World => Below wr.heap.size wr WW ∧ ∃ q, EBox WW bx #[.int .i64 xid, .string xlb, .int .i64 xf, .int .i64 xt, q]) Z0n := HSX.out _ HZ0n
                clear HZT hb5 HZ0 hs
                refine take_in (i := 7) (v := .pointer (some (td.add (ti * 2)))) rfl (by kernel_rfl) (by kernel_rfl) (by kernel_rfl) (fun _ _ _ h => h) (by rfl) ?hy7s8 (by assumption) ?_
                case hy7s8 => intro WW hSw; go_simp; try with_reducible rfl
                try simp only [Act.put, List.setIfInBounds_toArray, List.set_cons_zero, List.set_cons_succ]
                refine take_in (i := 8) (v := .agg #[.string ts_, .slice tA tp.length tcc]) rfl (by kernel_rfl) (by kernel_rfl) (by kernel_rfl) (fun _ _ _ h => h) (by rfl) ?hy8s9 (by assumption) ?_
                case hy8s9 => intro WW hSw; obtain ⟨s0, q, s2⟩ := hSw; obtain ⟨td2, e2, s5⟩ := HTRE.out WW (below_then HX.out s0) ti HYES.out.1; cases e2; rw [HYES.out.2, hTT] at s5; obtain ⟨_, _, t0, t1⟩ := s5; simp only at t0 t1; go_simp; try with_reducible rfl
                try simp only [Act.put, List.setIfInBounds_toArray, List.set_cons_zero, List.set_cons_succ]
                refine one_step (i := 10) (by kernel_rfl) rfl (fun K hK => ?_)
                have hxc := (HBXX.out _ HZ0n).2.cells
                go_simp
                refine hK.out _ _ (HSX.out _ HZ0n) (fun hHeld => ?_)
                clear hHeld hK K hxc
                try simp only [Act.put, List.setIfInBounds_toArray, List.set_cons_zero, List.set_cons_succ]
                refine name_world (F := fun X => Below W5.heap.size W5 X) HZ0n (fun Z0nl HZ0nl => ?_)
                have hHeld : (fun WW : World => Below wr.heap.size wr WW ∧ ∃ q, EBox WW bx #[.int .i64 xid, .string xlb, .int .i64 xf, .int .i64 xt, q]) Z0nl := HSX.out _ HZ0nl
                clear HZ0n
                refine name_world (F := fun X => Below W5.heap.size W5 X) (by assumption) (fun Z3 HZ3 => ?_)
                clear hHeld HZ0nl
                have hHeld : (fun WW : World => Below wr.heap.size wr WW ∧ ∃ q, EBox WW bx #[.int .i64 xid, .string xlb, .int .i64 xf, .int .i64 xt, q]) Z3 := HSX.out _ HZ3
                refine one_step (i := 11) (by kernel_rfl) rfl (fun K hK => ?_)
                have hs := HTD.out Z3 HZ3
                go_simp
                go_at_call 30
                go_loud (refine hs.mono ?_)
                rintro e Z4 ⟨A5, c5, rfl, ho5, hb5⟩
                have HZ4 := below_then HZ3 hb5
                have ho6 := own_base ho5 (show w.heap.size ≤ Z3.heap.size from Nat.le_trans HX5.out.size HZ3.size)
                refine hK.out _ _ (HSX.out _ HZ4) (fun hHeld => ?_)
                clear hHeld hK K
                try simp only [Act.put, List.setIfInBounds_toArray, List.set_cons_zero, List.set_cons_succ]
                refine name_world (F := fun X => Below W5.heap.size W5 X ∧ X.ownsRow w.heap.size 96 6 (.slice A5 tl.length c5) tl.length (tl.flatMap cellsQD)) ⟨HZ4, ho6⟩ (fun Z5 hF => ?_)
                obtain ⟨HZ5, ho7⟩ := hF
                have hHeld : (fun WW : World => Below wr.heap.size wr WW ∧ ∃ q, EBox WW bx #[.int .i64 xid, .string xlb, .int .i64 xf, .int .i64 xt, q]) Z5 := HSX.out _ HZ5
                clear HZ4 ho5 ho6 hb5 HZ3 hs
                refine take_in (i := 12) (v := ?v12s10) rfl (by kernel_rfl) (by kernel_rfl) (by kernel_rfl) (fun _ _ _ h => h) (by rfl) ?hy12s10 (by assumption) ?_
                case hy12s10 => intro WW hSw; go_simp; try with_reducible rfl
                try simp only [Act.put, List.setIfInBounds_toArray, List.set_cons_zero, List.set_cons_succ]
                obtain ⟨hb6r, hb6x⟩ := HBXX.out Z5 HZ5
                have hxf : ∀ j, Z5.frozen? ⟨bx, j, none⟩ = false := fun j => Lib.frozen_of_heap hb6x j
                have hxc := hb6x.cells
                refine one_step (i := 13) (by kernel_rfl) rfl (fun K hK => ?_)
                go_simp
                have HBS : Below wr.heap.size wr (Z5.setCell ⟨bx, 4, none⟩ (.slice A5 tl.length c5)) := below_set (below_then HB5.out HZ5) (p := ⟨bx, 4, none⟩) HBX5.out _
                have hput : EBox (Z5.setCell ⟨bx, 4, none⟩ (.slice A5 tl.length c5)) bx #[.int .i64 xid, .string xlb, .int .i64 xf, .int .i64 xt, .slice A5 tl.length c5] := heap_setCell_same Z5 bx 4 _ _ _ hb6x
                have hown : (Z5.setCell ⟨bx, 4, none⟩ (.slice A5 tl.length c5)).ownsRow w.heap.size 96 6 (.slice A5 tl.length c5) tl.length (tl.flatMap cellsQD) := own_keep ho7 (fun k hk => heap_setCell_other _ ⟨bx, 4, none⟩ _ _ (fun e2 => own_tag ho7 hb6x (by decide) (by rw [hk]; exact congrArg some e2)))
                refine hK.out _ _ ⟨HBS, _, hput⟩ (fun hHeld => ?_)
                clear hHeld hK K
                try simp only [Act.put, List.setIfInBounds_toArray, List.set_cons_zero, List.set_cons_succ]
                refine wpAnyH_done (by kernel_rfl) ?_ _
                go_wp2
                go_meet
                case rel => exact ⟨A5, c5, HBS, hput, hown⟩
              · skip
                have hxc := (HBXX.out _ HZ0).2.cells
                go_simp
                refine hK.out _ _ (HSX.out _ HZ0) (fun hHeld => ?_)
                clear hHeld hK K hxc
                try simp only [Act.put, List.setIfInBounds_toArray, List.set_cons_zero, List.set_cons_succ]
                refine name_world (F := fun X => Below W5.heap.size W5 X) HZ0 (fun Z0l HZ0l => ?_)
                have hHeld : (fun WW : World => Below wr.heap.size wr WW ∧ ∃ q, EBox WW bx #[.int .i64 xid, .string xlb, .int .i64 xf, .int .i64 xt, q]) Z0l := HSX.out _ HZ0l
                clear HZ0
                refine one_step (i := 6) (by kernel_rfl) rfl (fun K hK => ?_)
                have hs := HTYE.out xlb Z0l (below_then HX5.out HZ0l)
                go_simp
                go_at_call 31
                go_loud (refine hs.mono ?_)
                rintro e ZT ⟨r, rfl, hans, hb5⟩
                have HZT := below_then HZ0l hb5
                refine hK.out _ _ (HSX.out _ HZT) (fun hHeld => ?_)
                clear hHeld hK K
                try simp only [Act.put, List.setIfInBounds_toArray, List.set_cons_zero, List.set_cons_succ]
                rcases hans with ⟨hno, hr1⟩ | ⟨hyes, ti, hti, hr1, hte⟩
                · exact absurd HLB.out.1 hno
                subst hr1
                have hti0 : (0 : Int) ≤ (ti : Int) := by omega
                have htin : ti < n2 := by have := HN.out; omega
                have htini : (ti : Int) < (n2 : Int) := by omega
                have HYES := Aside0.mk (And.intro hti hte)
                obtain ⟨td, htd, _⟩ := HTRE.out w (Below.refl _ _) ti hti
                subst htd
                obtain ⟨tt, htt⟩ : ∃ tt, tt = typeOf ets xlb.data.toList := ⟨_, rfl⟩
                have htm := typeOf_mem hyes
                rw [← htt] at htm
                have hpp := (HG.out.ets.props tt htm)
                have hTT := htt.symm
                obtain ⟨ts_, tA, tp, tcc⟩ := tt
                simp only at hpp
                have htl2 : tl = toldL tp xqs := by rw [HTL.out.1]; simp only; rw [hTT]
                have HTD : Aside0 (∀ Z, Below W5.heap.size W5 Z → Calls Tryd.prog 30 #[.agg #[.string ts_, .slice tA tp.length tcc], .slice xA xqs.length xc] Z fun e w' => ∃ A2 c2, e = .returned (.slice A2 tl.length c2) ∧ w'.ownsRow Z.heap.size 96 6 (.slice A2 tl.length c2) tl.length (tl.flatMap cellsQD) ∧ Below Z.heap.size Z w') := ⟨fun Z h => by
                  have hq := (HGX.out.2.2).below (below_then HX5.out h)
                  have hh := rtold_any ts_ tA tp tcc xqs xA xc Z (hpp.below (below_then HX5.out h)) hq (by rw [← htl2]; exact HTL.out.2)
                  rw [← htl2] at hh
                  exact hh⟩
                clear htt htm hpp htl2 hyes hti hte
                refine name_world (F := fun X => Below W5.heap.size W5 X) HZT (fun Z0ln HZ0ln => ?_)
                have hHeld : (fun WW : World => Below wr.heap.size wr WW ∧ ∃ q, EBox WW bx #[.int .i64 xid, .string xlb, .int .i64 xf, .int .i64 xt, q]) Z0ln := HSX.out _ HZ0ln
                clear HZT hb5 HZ0l hs
                refine take_in (i := 7) (v := .pointer (some (td.add (ti * 2)))) rfl (by kernel_rfl) (by kernel_rfl) (by kernel_rfl) (fun _ _ _ h => h) (by rfl) ?hy7s11 (by assumption) ?_
                case hy7s11 => intro WW hSw; go_simp; try with_reducible rfl
                try simp only [Act.put, List.setIfInBounds_toArray, List.set_cons_zero, List.set_cons_succ]
                refine take_in (i := 8) (v := .agg #[.string ts_, .slice tA tp.length tcc]) rfl (by kernel_rfl) (by kernel_rfl) (by kernel_rfl) (fun _ _ _ h => h) (by rfl) ?hy8s12 (by assumption) ?_
                case hy8s12 => intro WW hSw; obtain ⟨s0, q, s2⟩ := hSw; obtain ⟨td2, e2, s5⟩ := HTRE.out WW (below_then HX.out s0) ti HYES.out.1; cases e2; rw [HYES.out.2, hTT] at s5; obtain ⟨_, _, t0, t1⟩ := s5; simp only at t0 t1; go_simp; try with_reducible rfl
                try simp only [Act.put, List.setIfInBounds_toArray, List.set_cons_zero, List.set_cons_succ]
                refine name_world (F := fun X => Below W5.heap.size W5 X) (by assumption) (fun Z3 HZ3 => ?_)
                clear hHeld HZ0ln
                have hHeld : (fun WW : World => Below wr.heap.size wr WW ∧ ∃ q, EBox WW bx #[.int .i64 xid, .string xlb, .int .i64 xf, .int .i64 xt, q]) Z3 := HSX.out _ HZ3
                refine one_step (i := 11) (by kernel_rfl) rfl (fun K hK => ?_)
                have hs := HTD.out Z3 HZ3
                go_simp
                go_at_call 30
                go_loud (refine hs.mono ?_)
                rintro e Z4 ⟨A5, c5, rfl, ho5, hb5⟩
                have HZ4 := below_then HZ3 hb5
                have ho6 := own_base ho5 (show w.heap.size ≤ Z3.heap.size from Nat.le_trans HX5.out.size HZ3.size)
                refine hK.out _ _ (HSX.out _ HZ4) (fun hHeld => ?_)
                clear hHeld hK K
                try simp only [Act.put, List.setIfInBounds_toArray, List.set_cons_zero, List.set_cons_succ]
                refine name_world (F := fun X => Below W5.heap.size W5 X ∧ X.ownsRow w.heap.size 96 6 (.slice A5 tl.length c5) tl.length (tl.flatMap cellsQD)) ⟨HZ4, ho6⟩ (fun Z5 hF => ?_)
                obtain ⟨HZ5, ho7⟩ := hF
                have hHeld : (fun WW : World => Below wr.heap.size wr WW ∧ ∃ q, EBox WW bx #[.int .i64 xid, .string xlb, .int .i64 xf, .int .i64 xt, q]) Z5 := HSX.out _ HZ5
                clear HZ4 ho5 ho6 hb5 HZ3 hs
                refine take_in (i := 12) (v := ?v12s13) rfl (by kernel_rfl) (by kernel_rfl) (by kernel_rfl) (fun _ _ _ h => h) (by rfl) ?hy12s13 (by assumption) ?_
                case hy12s13 => intro WW hSw; go_simp; try with_reducible rfl
                try simp only [Act.put, List.setIfInBounds_toArray, List.set_cons_zero, List.set_cons_succ]
                obtain ⟨hb6r, hb6x⟩ := HBXX.out Z5 HZ5
                have hxf : ∀ j, Z5.frozen? ⟨bx, j, none⟩ = false := fun j => Lib.frozen_of_heap hb6x j
                have hxc := hb6x.cells
                refine one_step (i := 13) (by kernel_rfl) rfl (fun K hK => ?_)
                go_simp
                have HBS : Below wr.heap.size wr (Z5.setCell ⟨bx, 4, none⟩ (.slice A5 tl.length c5)) := below_set (below_then HB5.out HZ5) (p := ⟨bx, 4, none⟩) HBX5.out _
                have hput : EBox (Z5.setCell ⟨bx, 4, none⟩ (.slice A5 tl.length c5)) bx #[.int .i64 xid, .string xlb, .int .i64 xf, .int .i64 xt, .slice A5 tl.length c5] := heap_setCell_same Z5 bx 4 _ _ _ hb6x
                have hown : (Z5.setCell ⟨bx, 4, none⟩ (.slice A5 tl.length c5)).ownsRow w.heap.size 96 6 (.slice A5 tl.length c5) tl.length (tl.flatMap cellsQD) := own_keep ho7 (fun k hk => heap_setCell_other _ ⟨bx, 4, none⟩ _ _ (fun e2 => own_tag ho7 hb6x (by decide) (by rw [hk]; exact congrArg some e2)))
                refine hK.out _ _ ⟨HBS, _, hput⟩ (fun hHeld => ?_)
                clear hHeld hK K
                try simp only [Act.put, List.setIfInBounds_toArray, List.set_cons_zero, List.set_cons_succ]
                refine wpAnyH_done (by kernel_rfl) ?_ _
                go_wp2
                go_meet
                case rel => exact ⟨A5, c5, HBS, hput, hown⟩
            case rest =>
              obtain ⟨A5, c5, hb6, hx6, ho6⟩ := hcut
              have HX6 := Aside0.mk (below_then HX.out hb6)
              have HR6 := Aside0.mk (gbox_below HR.out hb6)
              have HZ6 := Aside0.mk (gbox_below HZ.out hb6)
              have HO6 := Aside0.mk (gbox_below HO.out hb6)
              have HW6 := Aside0.mk (own_below HW.out hb6)
              have HGD6 : Aside0 (∀ y ∈ l2, fineE w wc y) := ⟨fun y hy => (HGD.out y hy).below hb6⟩
              have HBX6 := Aside0.mk hx6
              have HY6 : Aside0 (fineE w wc (⟨xid, xlb, xf, xt, A5, tl, c5⟩ : ED)) := ⟨by
                obtain ⟨A6, c6, hv6, hr6, hf6⟩ := readsQ_own_at ho6 (by have := HTL.out.2; omega) (fun q hq => by
                  have hq2 : q ∈ xqs := toldL_mem (by have h := HTL.out.1; simp only at h; rw [← h]; exact hq)
                  exact (HGX.out.2.2.all q hq2).below HX6.out)
                cases hv6
                have hp : ∀ q ∈ tl, ReadsI w q.v.A q.v.p := fun q hq => HGX.out.2.2.path q (toldL_mem (by have h := HTL.out.1; simp only at h; rw [← h]; exact hq))
                exact ⟨⟨HGX.out.1, HGX.out.2.1, hr6⟩, hp⟩⟩
              have HWN6 := Aside0.mk (own_below HWN.out hb6)
              have HGN6 : Aside0 (∀ y ∈ ln, fineN w wc y) := ⟨fun y hy => (HGN.out y hy).below hb6⟩
              clear HWN HGN
              clear hb6 hx6 ho6 HR HZ HO HW HGD HX HBXX HSX HX5x HB5 HBX5 HX5
              have hoc := HO6.out.cells
              go_upto_region 21 with (fail)
              go_wp2
              clear hoc
              go_loopg [13] (j + 1) (fun gg s13 wx => ∃ (a : Nat), a ≤ j ∧ a < gg ∧ s13 = .int .i64 a ∧ Aside0 (∀ k, a ≤ k → k < j → xid < (l2.getD k ED.zero).id) ∧ Aside0 (Below wc.heap.size wc wx))
              case atStart => exact ⟨j, by omega, by omega, rfl, ⟨fun k h1 h2 => by omega⟩, ⟨Below.refl _ _⟩⟩
              case round =>
                obtain ⟨a, ha, hg, rfl, HHI, HV⟩ := hrel
                have ha0 : (0 : Int) ≤ (a : Int) := by omega
                have hai : (a : Int) ≤ (j : Int) := by omega
                have hoc := (gbox_below HO6.out HV.out).cells
                have hxc := (HBX6.out.below HV.out).cells
                obtain ⟨GI, hGI⟩ : ∃ GI, GI = gk := ⟨_, rfl⟩
                have HGI := Aside0.mk hGI
                rw [← hGI] at hg
                have HJ2 := Aside0.mk (And.intro ha hg)
                clear hGI hg
                by_cases h0 : a = 0
                · have h0i : ¬ (0 : Int) < (a : Int) := by omega
                  have h0n : ¬ 0 < a := by omega
                  have h0d : decide (0 < a) = false := decide_eq_false h0n
                  have h0e : decide ((0 : Int) < (a : Int)) = false := decide_eq_false h0i
                  have HLO : Aside0 (a = 0 ∨ (l2.getD (a - 1) ED.zero).id ≤ xid) := ⟨.inl h0⟩
                  clear h0
                  go_upto_region 22 with (fail)
                  go_quiet (fail)
                  obtain ⟨W7, hW7⟩ : ∃ W7, W7 = wr.drewN nq := ⟨_, rfl⟩
                  have HB7 : Aside0 (Below wc.heap.size wc W7) := ⟨by rw [hW7]; exact below_then HV.out (below_q _)⟩
                  rw [← hW7]
                  clear hW7 hoc hxc
                  have HB7W := Aside0.mk (below_then HX6.out HB7.out)
                  have HR7 := Aside0.mk (gbox_below HR6.out HB7.out)
                  have HZ7 := Aside0.mk (gbox_below HZ6.out HB7.out)
                  have HO7 := Aside0.mk (gbox_below HO6.out HB7.out)
                  have HW7 := Aside0.mk (own_below HW6.out HB7.out)
                  obtain ⟨hc1, hc9, hA0, hs1, A2, c2, hs2, hA2, hrd2⟩ := slice_own_E HW6.out ha
                  have hln := HL.out.1
                  have hown7 : W7.ownsRow w.heap.size 55 5 (.slice A j c) l2.length (l2.flatMap cellsED) := by rw [hln]; exact HW7.out
                  obtain ⟨Ar, cr, hvr, hr7⟩ := readsE_own hown7 (by rw [hln]; have := hN; omega) (fun y hy => ((HGD6.out y hy).below HB7.out).1)
                  rw [← (Value.slice.inj hvr).1] at hr7
                  clear hvr hown7
                  have HR7R := Aside0.mk hr7
                  have HRD2 := Aside0.mk hrd2
                  have HA2 := Aside0.mk hA2
                  have HA0 := Aside0.mk hA0
                  have hba := below_more (Below.refl W7.heap.size W7) (.cells #[] 55)
                  have HBA := Aside0.mk hba
                  have hob : (W7.alloc (.cells #[] 55)).cell? ⟨bo, 3, none⟩ = some (.slice A j c) := (gbox_below HO7.out hba).cells 3
                  have hta : a = (l2.take a).length := by rw [List.length_take, hln]; omega
                  have HTA := Aside0.mk hta
                  have hoe := own_empty_E W7 W7.heap.size (Nat.le_refl _)
                  have HOE := Aside0.mk hoe
                  clear hrd2 hA2 hA0 hln hr7 hba hta hoe
                  go_upto_region 25 with (at_builtin; go_loud (refine app_all_EL rfl (.tmp 134) (.tmp 138) rfl W7.heap.size _ rfl HOE.out A (l2.take a) a c HTA.out rfl HA0.out ((HR7R.out.below HBA.out).take a) (by have := hN; omega) HBA.out.size ?_); intro v1 Z1 hT1 hb1; obtain ⟨A1, c1x, hv1⟩ := own_shape hT1; subst hv1)
                  have HZ1a : Aside0 (Below W7.heap.size W7 Z1) := ⟨HBA.out.trans hb1⟩
                  have HT1 := Aside0.mk hT1
                  have hxz := (HBX6.out.below (below_then HB7.out HZ1a.out)).cells
                  clear hT1 hb1 hob
                  have HBB := Aside0.mk (below_more (Below.refl Z1.heap.size Z1) (.cells #[.int .i64 xid, .string xlb, .int .i64 xf, .int .i64 xt, .slice A5 tl.length c5] 55))
                  have HT1b := Aside0.mk (HT1.out.alloc (.cells #[.int .i64 xid, .string xlb, .int .i64 xf, .int .i64 xt, .slice A5 tl.length c5] 55))
                  go_upto_region 26 with (at_builtin; go_loud (refine app_one_EL rfl (.tmp 140) (.tmp 142) rfl W7.heap.size _ a _ rfl HT1b.out Z1.heap.size (⟨xid, xlb, xf, xt, A5, tl, c5⟩ : ED) rfl (heap_alloc_new Z1 _) (by have := hN; omega) (Nat.le_trans HZ1a.out.size HBB.out.size) ?_); intro v2 Z2 hT2 hb2 hg2; obtain ⟨A3, c3x, hv2⟩ := own_shape hT2; subst hv2)
                  have HZ2a : Aside0 (Below W7.heap.size W7 Z2) := ⟨(HZ1a.out.trans (HBB.out.mono HZ1a.out.size)).trans hb2⟩
                  have HT2 : Aside0 (Z2.ownsRow W7.heap.size 55 5 (.slice A3 (a + 1) c3x) (a + 1) ((l2.take a ++ [(⟨xid, xlb, xf, xt, A5, tl, c5⟩ : ED)]).flatMap cellsED)) := ⟨by rw [List.flatMap_append]; simpa using hT2⟩
                  have hoz := (gbox_below HO7.out HZ2a.out).cells
                  clear hT2 hb2 hg2 hxz
                  have HDL : Aside0 (j - a = (l2.drop a).length) := ⟨by rw [List.length_drop, HL.out.1]⟩
                  go_upto_region 18 with (at_builtin; go_loud (refine app_list_E rfl (.tmp 144) (.tmp 148) rfl W7.heap.size _ (a + 1) (l2.take a ++ [(⟨xid, xlb, xf, xt, A5, tl, c5⟩ : ED)]) rfl HT2.out A2 (l2.drop a) (j - a) c2 HDL.out rfl HA2.out (HRD2.out Z2 l2 HL.out.1 (HR7R.out.below HZ2a.out)) (by have := hN; omega) HZ2a.out.size ?_); intro v3 Z3 hT3 hb3 hg3; obtain ⟨A4, c4, hv3⟩ := own_shape hT3; subst hv3; have hb73 := HZ2a.out.trans hb3; have hfz := (gbox_below HO7.out hb73).free; have hcl := (gbox_below HO7.out hb73).cells)
                  have HZ3a : Aside0 (Below W7.heap.size W7 Z3) := ⟨HZ2a.out.trans hb3⟩
                  have hcount : a + 1 + (j - a) = j + 1 := by omega
                  rw [hcount] at hT3 ⊢
                  have HT3 := Aside0.mk hT3
                  obtain ⟨Z4, hZ4⟩ : ∃ Z4, Z4 = Z3.setCell ⟨bo, 3, none⟩ (.slice A4 (j + 1) c4) := ⟨_, rfl⟩
                  have HO3 := Aside0.mk (gbox_below HO7.out HZ3a.out)
                  have HO4 : Aside0 (GBox Z4 bo #[.slice NA n1 nc, .slice EA n2 ec, .slice An n3 cn, .slice A4 (j + 1) c4]) := ⟨by rw [hZ4]; exact GBox.put HO3.out 3 _⟩
                  have hk4 : ∀ k, k ≠ bo → Z4.heap[k]? = Z3.heap[k]? := fun k h => by rw [hZ4]; exact heap_setCell_other _ ⟨bo, 3, none⟩ _ _ h
                  have HR4 : Aside0 (GBox Z4 br #[.slice NA n1 nc, .slice EA n2 ec, .slice VA n3 vc, .slice (some pv) n4 uc]) := ⟨(hk4 br (by have := HBL.out; omega)).trans (gbox_below HR7.out HZ3a.out)⟩
                  have HZ4 : Aside0 (GBox Z4 bz #[.slice none 0 0, .slice none 0 0, .slice none 0 0, .slice none 0 0]) := ⟨(hk4 bz (by have := HBL.out; omega)).trans (gbox_below HZ7.out HZ3a.out)⟩
                  have hl4 := below_set (below_then HB7W.out HZ3a.out) (p := ⟨bo, 3, none⟩) (by have := HBL.out; show w.heap.size ≤ bo; omega) (.slice A4 (j + 1) c4)
                  have HX4 : Aside0 (Below w.heap.size w Z4) := ⟨by rw [hZ4]; exact hl4⟩
                  have HW4 : Aside0 (Z4.ownsRow w.heap.size 55 5 (.slice A4 (j + 1) c4) (j + 1) ((l2.take a ++ [(⟨xid, xlb, xf, xt, A5, tl, c5⟩ : ED)] ++ l2.drop a).flatMap cellsED)) := ⟨by rw [hZ4]; exact own_set_raw (own_base HT3.out HB7W.out.size) HO3.out (by decide)⟩
                  have HL4 : Aside0 ((l2.take a ++ [(⟨xid, xlb, xf, xt, A5, tl, c5⟩ : ED)] ++ l2.drop a).length = j + 1 ∧ ((l2.take a ++ [(⟨xid, xlb, xf, xt, A5, tl, c5⟩ : ED)] ++ l2.drop a).map ED.con).Perm ((es.take (j + 1)).map (toldE ets)) ∧ (l2.take a ++ [(⟨xid, xlb, xf, xt, A5, tl, c5⟩ : ED)] ++ l2.drop a).Pairwise (fun a b => a.id ≤ b.id)) := ⟨by
                    refine ⟨by have := HL.out.1; simp; omega, ?_, ins_sorted ED.id ED.zero l2 _ a (by rw [HL.out.1]; exact ha) HL.out.2.2 HLO.out (fun k h1 h2 => HHI.out k h1 (by rw [← HL.out.1]; exact h2))⟩
                    rw [HTK.out]
                    refine ((put_in_E l2 (⟨xid, xlb, xf, xt, A5, tl, c5⟩ : ED) a).map ED.con).trans ?_
                    rw [List.map_cons, List.map_append]
                    have e : ED.con (⟨xid, xlb, xf, xt, A5, tl, c5⟩ : ED) = toldE ets (⟨xid, xlb, xf, xt, xA, xqs, xc⟩ : ED) := by
                      have h := HTL.out.1
                      try simp only at h
                      show (xid, xlb, xf, xt, tl) = (xid, xlb, xf, xt, toldL (typeOf ets xlb.data.toList).ps xqs)
                      rw [h]
                    rw [e]
                    exact (List.Perm.cons _ HL.out.2.1).trans (List.perm_append_comm (l₁ := [_]) (l₂ := (es.take j).map (toldE ets)))⟩
                  have HGD4 : Aside0 (∀ y ∈ l2.take a ++ [(⟨xid, xlb, xf, xt, A5, tl, c5⟩ : ED)] ++ l2.drop a, fineE w Z4 y) := ⟨fun y hy => by
                    have hy2 : y = (⟨xid, xlb, xf, xt, A5, tl, c5⟩ : ED) ∨ y ∈ l2 := by
                      rcases List.mem_append.1 hy with hy | hy
                      · rcases List.mem_append.1 hy with hy | hy
                        · exact .inr (List.mem_of_mem_take hy)
                        · exact .inl (List.mem_singleton.1 hy)
                      · exact .inr (List.mem_of_mem_drop hy)
                    have hf : fineE w wc y := by
                      rcases hy2 with h | h
                      · rw [h]
                        exact HY6.out
                      · exact HGD6.out y h
                    rw [hZ4]
                    exact (hf.below (below_then HB7.out HZ3a.out)).set HO3.out (slices4 _ _ _ _ _ _ _ _ _ _ _ _) hl4⟩
                  have hb74 := below_then HB7.out HZ3a.out
                  have HWN4 : Aside0 (Z4.ownsRow w.heap.size 52 3 (.slice An n3 cn) n3 (ln.flatMap cellsND)) := ⟨by rw [hZ4]; exact own_set_raw (own_below HWN6.out hb74) HO3.out (by decide)⟩
                  have HGN4 : Aside0 (∀ y ∈ ln, fineN w Z4 y) := ⟨fun y hy => by rw [hZ4]; exact ((HGN6.out y hy).below hb74).set HO3.out (slices4 _ _ _ _ _ _ _ _ _ _ _ _) hl4⟩
                  clear hb74
                  rw [← hZ4]
                  clear hT3 hb3 hg3 hb73 hfz hcl hZ4 hk4 hcount hoz hs1 hs2 hl4
                  go_wp2
                  go_roundg (GJ - 1)
                  case measure => have := HJ.out; have := HGJ.out; omega
                  case rel => exact ⟨j + 1, by have := HJ.out; omega, by have := HJ.out; omega, by first | rfl | go_num, _, A4, c4, HL4, HR4, HZ4, HO4, HW4, HGD4, HWN4, HGN4, HX4⟩
                · have h0i : (0 : Int) < (a : Int) := by omega
                  have h0n : 0 < a := by omega
                  have h0d : decide (0 < a) = true := decide_eq_true h0n
                  have h0e : decide ((0 : Int) < (a : Int)) = true := decide_eq_true h0i
                  obtain ⟨b, hb⟩ : ∃ b, b = a - 1 := ⟨_, rfl⟩
                  have hbi : (a : Int) - 1 = (b : Int) := by omega
                  have hb0 : (0 : Int) ≤ (b : Int) := by omega
                  have hbj : b < j := by omega
                  have hbji : (b : Int) < (j : Int) := by omega
                  have hbw : IntKind.i64.wrap ((a : Int) - 1) = (b : Int) := by rw [IntKind.wrap_i64, hbi]; omega
                  obtain ⟨g, hAg, hid⟩ := own_id_E (own_below HW6.out HV.out) hbj HL.out.1.symm
                  subst hAg
                  obtain ⟨z, hz⟩ : ∃ z, z = (l2.getD b ED.zero).id := ⟨_, rfl⟩
                  rw [← hz] at hid
                  have HZB := Aside0.mk (And.intro hb hz)
                  have hid2 : wr.cell? ⟨g, 0 + b * 5, none⟩ = some (.int .i64 z) := by rw [Nat.zero_add]; exact hid
                  have hid3 : wr.cell? ((⟨g, 0, none⟩ : Addr).add (b * 5)) = some (.int .i64 z) := by rw [add_addr]; exact hid2
                  clear hb hz h0
                  by_cases hcmp : xid < z
                  · go_upto_region 22 with (fail)
                    go_quiet (fail)
                    obtain ⟨W7, hW7⟩ : ∃ W7, W7 = wr.drewN nq := ⟨_, rfl⟩
                    have HB7 : Aside0 (Below wc.heap.size wc W7) := ⟨by rw [hW7]; exact below_then HV.out (below_q _)⟩
                    rw [← hW7]
                    have HH2 : Aside0 (∀ k, b ≤ k → k < j → xid < (l2.getD k ED.zero).id) := ⟨fun k h1 h2 => by
                      by_cases e : k = b
                      · rw [e, ← HZB.out.2]
                        exact hcmp
                      · exact HHI.out k (by have := HZB.out.1; have := HJ2.out; omega) h2⟩
                    clear hW7 hid hid2 hid3 hoc hxc
                    go_wp2
                    go_roundg (GI - 1)
                    case measure => have := HJ2.out; have := HGI.out; omega
                    case rel => exact ⟨b, by omega, by have := HJ2.out; have := HZB.out.1; omega, by first | rfl | go_num, HH2, HB7⟩
                  · have hcmp2 : z ≤ xid := by omega
                    have HLO : Aside0 (a = 0 ∨ (l2.getD (a - 1) ED.zero).id ≤ xid) := ⟨.inr (by rw [← HZB.out.1, ← HZB.out.2]; exact hcmp2)⟩
                    go_upto_region 22 with (fail)
                    go_quiet (fail)
                    clear hid hid2 hid3
                    obtain ⟨W7, hW7⟩ : ∃ W7, W7 = wr.drewN nq := ⟨_, rfl⟩
                    have HB7 : Aside0 (Below wc.heap.size wc W7) := ⟨by rw [hW7]; exact below_then HV.out (below_q _)⟩
                    rw [← hW7]
                    clear hW7 hoc hxc
                    have HB7W := Aside0.mk (below_then HX6.out HB7.out)
                    have HR7 := Aside0.mk (gbox_below HR6.out HB7.out)
                    have HZ7 := Aside0.mk (gbox_below HZ6.out HB7.out)
                    have HO7 := Aside0.mk (gbox_below HO6.out HB7.out)
                    have HW7 := Aside0.mk (own_below HW6.out HB7.out)
                    obtain ⟨hc1, hc9, hA0, hs1, A2, c2, hs2, hA2, hrd2⟩ := slice_own_E HW6.out ha
                    have hln := HL.out.1
                    have hown7 : W7.ownsRow w.heap.size 55 5 (.slice (some ⟨g, 0, none⟩) j c) l2.length (l2.flatMap cellsED) := by rw [hln]; exact HW7.out
                    obtain ⟨Ar, cr, hvr, hr7⟩ := readsE_own hown7 (by rw [hln]; have := hN; omega) (fun y hy => ((HGD6.out y hy).below HB7.out).1)
                    rw [← (Value.slice.inj hvr).1] at hr7
                    clear hvr hown7
                    have HR7R := Aside0.mk hr7
                    have HRD2 := Aside0.mk hrd2
                    have HA2 := Aside0.mk hA2
                    have HA0 := Aside0.mk hA0
                    have hba := below_more (Below.refl W7.heap.size W7) (.cells #[] 55)
                    have HBA := Aside0.mk hba
                    have hob : (W7.alloc (.cells #[] 55)).cell? ⟨bo, 3, none⟩ = some (.slice (some ⟨g, 0, none⟩) j c) := (gbox_below HO7.out hba).cells 3
                    have hta : a = (l2.take a).length := by rw [List.length_take, hln]; omega
                    have HTA := Aside0.mk hta
                    have hoe := own_empty_E W7 W7.heap.size (Nat.le_refl _)
                    have HOE := Aside0.mk hoe
                    clear hrd2 hA2 hA0 hln hr7 hba hta hoe
                    go_upto_region 25 with (at_builtin; go_loud (refine app_all_EL rfl (.tmp 134) (.tmp 138) rfl W7.heap.size _ rfl HOE.out (some ⟨g, 0, none⟩) (l2.take a) a c HTA.out rfl HA0.out ((HR7R.out.below HBA.out).take a) (by have := hN; omega) HBA.out.size ?_); intro v1 Z1 hT1 hb1; obtain ⟨A1, c1x, hv1⟩ := own_shape hT1; subst hv1)
                    have HZ1a : Aside0 (Below W7.heap.size W7 Z1) := ⟨HBA.out.trans hb1⟩
                    have HT1 := Aside0.mk hT1
                    have hxz := (HBX6.out.below (below_then HB7.out HZ1a.out)).cells
                    clear hT1 hb1 hob
                    have HBB := Aside0.mk (below_more (Below.refl Z1.heap.size Z1) (.cells #[.int .i64 xid, .string xlb, .int .i64 xf, .int .i64 xt, .slice A5 tl.length c5] 55))
                    have HT1b := Aside0.mk (HT1.out.alloc (.cells #[.int .i64 xid, .string xlb, .int .i64 xf, .int .i64 xt, .slice A5 tl.length c5] 55))
                    go_upto_region 26 with (at_builtin; go_loud (refine app_one_EL rfl (.tmp 140) (.tmp 142) rfl W7.heap.size _ a _ rfl HT1b.out Z1.heap.size (⟨xid, xlb, xf, xt, A5, tl, c5⟩ : ED) rfl (heap_alloc_new Z1 _) (by have := hN; omega) (Nat.le_trans HZ1a.out.size HBB.out.size) ?_); intro v2 Z2 hT2 hb2 hg2; obtain ⟨A3, c3x, hv2⟩ := own_shape hT2; subst hv2)
                    have HZ2a : Aside0 (Below W7.heap.size W7 Z2) := ⟨(HZ1a.out.trans (HBB.out.mono HZ1a.out.size)).trans hb2⟩
                    have HT2 : Aside0 (Z2.ownsRow W7.heap.size 55 5 (.slice A3 (a + 1) c3x) (a + 1) ((l2.take a ++ [(⟨xid, xlb, xf, xt, A5, tl, c5⟩ : ED)]).flatMap cellsED)) := ⟨by rw [List.flatMap_append]; simpa using hT2⟩
                    have hoz := (gbox_below HO7.out HZ2a.out).cells
                    clear hT2 hb2 hg2 hxz
                    have HDL : Aside0 (j - a = (l2.drop a).length) := ⟨by rw [List.length_drop, HL.out.1]⟩
                    go_upto_region 18 with (at_builtin; go_loud (refine app_list_E rfl (.tmp 144) (.tmp 148) rfl W7.heap.size _ (a + 1) (l2.take a ++ [(⟨xid, xlb, xf, xt, A5, tl, c5⟩ : ED)]) rfl HT2.out A2 (l2.drop a) (j - a) c2 HDL.out rfl HA2.out (HRD2.out Z2 l2 HL.out.1 (HR7R.out.below HZ2a.out)) (by have := hN; omega) HZ2a.out.size ?_); intro v3 Z3 hT3 hb3 hg3; obtain ⟨A4, c4, hv3⟩ := own_shape hT3; subst hv3; have hb73 := HZ2a.out.trans hb3; have hfz := (gbox_below HO7.out hb73).free; have hcl := (gbox_below HO7.out hb73).cells)
                    have HZ3a : Aside0 (Below W7.heap.size W7 Z3) := ⟨HZ2a.out.trans hb3⟩
                    have hcount : a + 1 + (j - a) = j + 1 := by omega
                    rw [hcount] at hT3 ⊢
                    have HT3 := Aside0.mk hT3
                    obtain ⟨Z4, hZ4⟩ : ∃ Z4, Z4 = Z3.setCell ⟨bo, 3, none⟩ (.slice A4 (j + 1) c4) := ⟨_, rfl⟩
                    have HO3 := Aside0.mk (gbox_below HO7.out HZ3a.out)
                    have HO4 : Aside0 (GBox Z4 bo #[.slice NA n1 nc, .slice EA n2 ec, .slice An n3 cn, .slice A4 (j + 1) c4]) := ⟨by rw [hZ4]; exact GBox.put HO3.out 3 _⟩
                    have hk4 : ∀ k, k ≠ bo → Z4.heap[k]? = Z3.heap[k]? := fun k h => by rw [hZ4]; exact heap_setCell_other _ ⟨bo, 3, none⟩ _ _ h
                    have HR4 : Aside0 (GBox Z4 br #[.slice NA n1 nc, .slice EA n2 ec, .slice VA n3 vc, .slice (some pv) n4 uc]) := ⟨(hk4 br (by have := HBL.out; omega)).trans (gbox_below HR7.out HZ3a.out)⟩
                    have HZ4 : Aside0 (GBox Z4 bz #[.slice none 0 0, .slice none 0 0, .slice none 0 0, .slice none 0 0]) := ⟨(hk4 bz (by have := HBL.out; omega)).trans (gbox_below HZ7.out HZ3a.out)⟩
                    have hl4 := below_set (below_then HB7W.out HZ3a.out) (p := ⟨bo, 3, none⟩) (by have := HBL.out; show w.heap.size ≤ bo; omega) (.slice A4 (j + 1) c4)
                    have HX4 : Aside0 (Below w.heap.size w Z4) := ⟨by rw [hZ4]; exact hl4⟩
                    have HW4 : Aside0 (Z4.ownsRow w.heap.size 55 5 (.slice A4 (j + 1) c4) (j + 1) ((l2.take a ++ [(⟨xid, xlb, xf, xt, A5, tl, c5⟩ : ED)] ++ l2.drop a).flatMap cellsED)) := ⟨by rw [hZ4]; exact own_set_raw (own_base HT3.out HB7W.out.size) HO3.out (by decide)⟩
                    have HL4 : Aside0 ((l2.take a ++ [(⟨xid, xlb, xf, xt, A5, tl, c5⟩ : ED)] ++ l2.drop a).length = j + 1 ∧ ((l2.take a ++ [(⟨xid, xlb, xf, xt, A5, tl, c5⟩ : ED)] ++ l2.drop a).map ED.con).Perm ((es.take (j + 1)).map (toldE ets)) ∧ (l2.take a ++ [(⟨xid, xlb, xf, xt, A5, tl, c5⟩ : ED)] ++ l2.drop a).Pairwise (fun a b => a.id ≤ b.id)) := ⟨by
                      refine ⟨by have := HL.out.1; simp; omega, ?_, ins_sorted ED.id ED.zero l2 _ a (by rw [HL.out.1]; exact ha) HL.out.2.2 HLO.out (fun k h1 h2 => HHI.out k h1 (by rw [← HL.out.1]; exact h2))⟩
                      rw [HTK.out]
                      refine ((put_in_E l2 (⟨xid, xlb, xf, xt, A5, tl, c5⟩ : ED) a).map ED.con).trans ?_
                      rw [List.map_cons, List.map_append]
                      have e : ED.con (⟨xid, xlb, xf, xt, A5, tl, c5⟩ : ED) = toldE ets (⟨xid, xlb, xf, xt, xA, xqs, xc⟩ : ED) := by
                        have h := HTL.out.1
                        try simp only at h
                        show (xid, xlb, xf, xt, tl) = (xid, xlb, xf, xt, toldL (typeOf ets xlb.data.toList).ps xqs)
                        rw [h]
                      rw [e]
                      exact (List.Perm.cons _ HL.out.2.1).trans (List.perm_append_comm (l₁ := [_]) (l₂ := (es.take j).map (toldE ets)))⟩
                    have HGD4 : Aside0 (∀ y ∈ l2.take a ++ [(⟨xid, xlb, xf, xt, A5, tl, c5⟩ : ED)] ++ l2.drop a, fineE w Z4 y) := ⟨fun y hy => by
                      have hy2 : y = (⟨xid, xlb, xf, xt, A5, tl, c5⟩ : ED) ∨ y ∈ l2 := by
                        rcases List.mem_append.1 hy with hy | hy
                        · rcases List.mem_append.1 hy with hy | hy
                          · exact .inr (List.mem_of_mem_take hy)
                          · exact .inl (List.mem_singleton.1 hy)
                        · exact .inr (List.mem_of_mem_drop hy)
                      have hf : fineE w wc y := by
                        rcases hy2 with h | h
                        · rw [h]
                          exact HY6.out
                        · exact HGD6.out y h
                      rw [hZ4]
                      exact (hf.below (below_then HB7.out HZ3a.out)).set HO3.out (slices4 _ _ _ _ _ _ _ _ _ _ _ _) hl4⟩
                    have hb74 := below_then HB7.out HZ3a.out
                    have HWN4 : Aside0 (Z4.ownsRow w.heap.size 52 3 (.slice An n3 cn) n3 (ln.flatMap cellsND)) := ⟨by rw [hZ4]; exact own_set_raw (own_below HWN6.out hb74) HO3.out (by decide)⟩
                    have HGN4 : Aside0 (∀ y ∈ ln, fineN w Z4 y) := ⟨fun y hy => by rw [hZ4]; exact ((HGN6.out y hy).below hb74).set HO3.out (slices4 _ _ _ _ _ _ _ _ _ _ _ _) hl4⟩
                    clear hb74
                    rw [← hZ4]
                    clear hT3 hb3 hg3 hb73 hfz hcl hZ4 hk4 hcount hoz hs1 hs2 hl4
                    go_wp2
                    go_roundg (GJ - 1)
                    case measure => have := HJ.out; have := HGJ.out; omega
                    case rel => exact ⟨j + 1, by have := HJ.out; omega, by have := HJ.out; omega, by first | rfl | go_num, _, A4, c4, HL4, HR4, HZ4, HO4, HW4, HGD4, HWN4, HGN4, HX4⟩
          · have hjn : j = n4 := by omega
            subst j
            have hoc := HO.out.cells
            have hzf := HZ.out.free
            have hzc := HZ.out.cells
            have HXB : Aside0 (w.heap.size ≤ bz) := ⟨by have := HBL.out; omega⟩
            go_wp2
            refine bodyPost_ret (results_raw rfl rfl rfl ((((HZ.out.put 0 _).put 1 _).put 2 _).put 3 _) rfl) rfl ?_
            have hbw := below_set (below_set (below_set (below_set HX.out (p := ⟨bz, 0, none⟩) HXB.out (.slice NA n1 nc)) (p := ⟨bz, 1, none⟩) HXB.out (.slice EA n2 ec)) (p := ⟨bz, 2, none⟩) HXB.out (.slice An n3 cn)) (p := ⟨bz, 3, none⟩) HXB.out (.slice A n4 c)
            obtain ⟨We, hWe⟩ : ∃ We, We = (((wr.setCell ⟨bz, 0, none⟩ (.slice NA n1 nc)).setCell ⟨bz, 1, none⟩ (.slice EA n2 ec)).setCell ⟨bz, 2, none⟩ (.slice An n3 cn)).setCell ⟨bz, 3, none⟩ (.slice A n4 c) := ⟨_, rfl⟩
            have hke : ∀ k, k ≠ bz → We.heap[k]? = wr.heap[k]? := fun k h => by
              rw [hWe]
              exact (heap_setCell_other _ ⟨bz, 3, none⟩ _ _ h).trans ((heap_setCell_other _ ⟨bz, 2, none⟩ _ _ h).trans ((heap_setCell_other _ ⟨bz, 1, none⟩ _ _ h).trans (heap_setCell_other _ ⟨bz, 0, none⟩ _ _ h)))
            rw [← hWe] at hbw
            try rw [← hWe]
            have howN : We.ownsRow w.heap.size 52 3 (.slice An n3 cn) n3 (ln.flatMap cellsND) := own_keep HWN.out (fun k hk => hke k (fun e2 => own_tag HWN.out HZ.out (by decide) (by rw [hk]; exact congrArg some e2)))
            have howE : We.ownsRow w.heap.size 55 5 (.slice A n4 c) n4 (l2.flatMap cellsED) := own_keep HW.out (fun k hk => hke k (fun e2 => own_tag HW.out HZ.out (by decide) (by rw [hk]; exact congrArg some e2)))
            have hgN : ∀ x ∈ ln, goodND We x := fun x hx => ⟨(HGN.out x hx).1.1, props_keep (HGN.out x hx).1.2 (HGN.out x hx).2 hbw (fun ad e hne => hke _ ((HGN.out x hx).1.2.off HZ.out (slices4 _ _ _ _ _ _ _ _ _ _ _ _) ad e hne))⟩
            have hgE : ∀ x ∈ l2, goodED We x := fun x hx => ⟨(HGD.out x hx).1.1, (HGD.out x hx).1.2.1, props_keep (HGD.out x hx).1.2.2 (HGD.out x hx).2 hbw (fun ad e hne => hke _ ((HGD.out x hx).1.2.2.off HZ.out (slices4 _ _ _ _ _ _ _ _ _ _ _ _) ad e hne))⟩
            have e3 := HLN.out.1
            have e4 := HL.out.1
            rw [← e3] at howN
            rw [← e4] at howE
            obtain ⟨A3', k3', hv3, hr3⟩ := readsN_own howN (by have := hN; omega) hgN
            obtain ⟨A4', k4', hv4, hr4⟩ := readsE_own howE (by have := hN; omega) hgE
            cases hv3
            cases hv4
            refine ⟨hbw, .inr ⟨?_, ⟨NA, nts, nc, EA, ets, ec, An, ln, cn, A, l2, c⟩, ?_, ⟨(HG.out.below hbw).nts, (HG.out.below hbw).ets, hr3, hr4⟩, ⟨rfl, rfl, ?_, ?_, HLN.out.2.2, HL.out.2.2⟩⟩⟩
            · simp only
              rw [← HCR.out]
            · simp only [GD.val]
              rw [e3, e4, ← HN.out.1, ← HN.out.2.1]
              rfl
            · have h := HLN.out.2.1
              rw [HN.out.2.2.1, List.take_length] at h
              exact h
            · have h := HL.out.2.1
              rw [HN.out.2.2.2, List.take_length] at h
              exact h
  · have hc3b : (c3 == 0) = false := by simp [hc3]
    have hzf := HZ3.out.free
    have hzc := HZ3.out.cells
    have HXB : Aside0 (w.heap.size ≤ bz) := ⟨by have := HBZ.out; omega⟩
    go_wp2
    refine bodyPost_ret (results_raw rfl rfl rfl ((((HZ3.out.put 0 _).put 1 _).put 2 _).put 3 _) rfl) rfl ?_
    refine ⟨below_set (below_set (below_set (below_set HBW3.out (p := ⟨bz, 0, none⟩) HXB.out _) (p := ⟨bz, 1, none⟩) HXB.out _) (p := ⟨bz, 2, none⟩) HXB.out _) (p := ⟨bz, 3, none⟩) HXB.out _, .inl ⟨?_, ?_⟩⟩
    · simp only
      rw [← HCR.out]
      exact hc3
    · simp only
      rw [← HCR.out]
      rfl
end Go.Proofs.YtffifhinhemkdaaDoor
