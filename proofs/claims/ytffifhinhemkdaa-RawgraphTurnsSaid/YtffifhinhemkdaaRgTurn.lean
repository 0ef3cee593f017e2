/- The law's turned: a graph's nodes and edges in another order, some edges left out. -/
import Derived.Test.YtffifhinhemkdaaRgTrn0
import Derived.Test.YtffifhinhemkdaaRgOpen
import Derived.Deep.QuietTactic
import Derived.BigQuiet
set_option linter.unusedVariables false
set_option linter.unusedSimpArgs false
namespace Go.Proofs.Ytffifhinhemkdaa
open Go.RowKit

theorem below_drewQ {w : World} (q : Nat) : Below w.heap.size w (w.drewN q) := ⟨rfl, rfl, rfl, Nat.le_refl _, fun _ _ => rfl⟩
theorem GBox.below {W W' : World} {b : Nat} {cs : Array Value} (h : GBox W b cs) (hb : Below W.heap.size W W') : GBox W' b cs := (hb.block b (Array.getElem?_eq_some_iff.1 h).1).trans h
theorem results_raw1 {fn : Func} {tmps : Array Value} {W : World} {b : Nat} {cs : Array Value} (h : fn.results = #[.cell 6 26]) (h4 : tmps.getD 6 undef = .pointer (some ⟨b, 0, none⟩)) (hb : GBox W b cs) (hc : cs.size = 4) :
    (results fn tmps).run Try.prog W = .ok (.agg cs) W := by
  have hi : (Try.prog.info? 26).map (·.size) = some cs.size := by rw [hc]; kernel_rfl
  have hl := run_loadVar_row (P := Try.prog) W b 26 26 cs (0, 0) _ hb Try.underlying26 rfl hi
  have h5 := h4
  rw [Array.getD_eq_getD_getElem?] at h5
  simp [results, h, h5, asAddr, hl, Result.andThen]
theorem own_box {W : World} {B n st b : Nat} {e : TypeId} {v : Value} {xs : List Value} {cs : Array Value} (h : W.ownsRow B e st v n xs) (hb : GBox W b cs) (hne : e ≠ 26) : v.ownBlock ≠ some b := by
  intro e1
  rcases h.2 with ⟨rfl, _⟩ | ⟨g, cap, cur, rfl, _, hh, _⟩
  · cases e1
  · obtain rfl : g = b := Option.some.inj e1
    rw [show W.heap[g]? = _ from hb] at hh
    cases hh
    exact hne rfl
theorem own_set_box {W : World} {B n st b i : Nat} {e : TypeId} {v u : Value} {xs : List Value} {cs : Array Value} (h : W.ownsRow B e st v n xs) (hb : GBox W b cs) (hne : e ≠ 26) : (W.setCell ⟨b, i, none⟩ u).ownsRow B e st v n xs := by
  have hx := own_box h hb hne
  obtain ⟨hl, hs⟩ := h
  refine ⟨hl, ?_⟩
  rcases hs with h0 | ⟨g, cap, cur, rfl, hg, hh, hr⟩
  · exact .inl h0
  · exact .inr ⟨g, cap, cur, rfl, hg, (heap_setCell_other _ ⟨b, i, none⟩ _ _ (fun e => hx (congrArg some e))).trans hh, hr⟩
theorem own_lower {W : World} {B B' n st : Nat} {e : TypeId} {v : Value} {xs : List Value} (h : W.ownsRow B e st v n xs) (hb : B' ≤ B) : W.ownsRow B' e st v n xs := by
  obtain ⟨hl, hs⟩ := h
  refine ⟨hl, ?_⟩
  rcases hs with h0 | ⟨g, cap, cur, hv, hg, hr⟩
  · exact .inl h0
  · exact .inr ⟨g, cap, cur, hv, Nat.le_trans hb hg, hr⟩
def TurnedA (g : GD) (db : List Int) (w : World) (e : Ending) (w' : World) : Prop :=
  Below w.heap.size w w' ∧ ∃ g2 : GD, e = .returned g2.val ∧ ReadsG w' g2 ∧ g2.nts = g.nts ∧ g2.ets = g.ets ∧ g2.ns.Perm g.ns ∧ (∃ l : List ED, l.Sublist g.es ∧ g2.es.Perm l ∧ (db = [] → l = g.es))
set_option maxRecDepth 100000 in
set_option maxHeartbeats 25600000 in
theorem turned_any (g : GD) (PA : Option Addr) (pb : List Int) (pc : Nat) (DA : Option Addr) (db : List Int) (dc : Nat) (w : World) (hg : ReadsG w g) (hp : Bytes w PA pb) (hd : Bytes w DA db) (hN : g.ns.length ≤ 2932031007401 ∧ g.es.length ≤ 2199023255551) :
    Calls Try.prog 8 #[g.val, .slice PA pb.length pc, .slice DA db.length dc] w fun e w' => TurnedA g db w e w' := by
  have HG := Aside0.mk hg
  have HP := Aside0.mk hp
  have HD := Aside0.mk hd
  obtain ⟨NA, nts, nc, EA, ets, ec, VA, ns, vc, UA, es, uc⟩ := g
  simp only [GD.val] at ⊢
  simp only at hN
  obtain ⟨n1, hn1⟩ : ∃ n1, n1 = nts.length := ⟨_, rfl⟩
  obtain ⟨n2, hn2⟩ : ∃ n2, n2 = ets.length := ⟨_, rfl⟩
  obtain ⟨n3, hn3⟩ : ∃ n3, n3 = ns.length := ⟨_, rfl⟩
  obtain ⟨n4, hn4⟩ : ∃ n4, n4 = es.length := ⟨_, rfl⟩
  obtain ⟨np, hnp⟩ : ∃ np, np = pb.length := ⟨_, rfl⟩
  obtain ⟨nd, hnd⟩ : ∃ nd, nd = db.length := ⟨_, rfl⟩
  have hnp9 : (np : Int) ≤ 9223372036854775807 := by have := hp.len; omega
  have hnd9 : (nd : Int) ≤ 9223372036854775807 := by have := hd.len; omega
  rw [← hn3, ← hn4] at hN
  rw [← hn1, ← hn2, ← hn3, ← hn4, ← hnp, ← hnd]
  have HN := Aside0.mk (And.intro hn1 (And.intro hn2 (And.intro hn3 (And.intro hn4 (And.intro hnp hnd)))))
  clear hn1 hn2 hn3 hn4 hnp hnd hg hp hd
  go_enter Try.func8, Try.ntmps8
  go_upto_region 2 with (fail)
  obtain ⟨Wa, hWa⟩ : ∃ Wa, Wa = w.alloc (.cells #[.slice NA n1 nc, .slice EA n2 ec, .slice VA n3 vc, .slice UA n4 uc] 26) := ⟨_, rfl⟩
  obtain ⟨Wb, hWb⟩ : ∃ Wb, Wb = Wa.alloc (.cells #[.slice none 0 0, .slice none 0 0, .slice none 0 0, .slice none 0 0] 26) := ⟨_, rfl⟩
  obtain ⟨W1, hW1⟩ : ∃ W1, W1 = Wb.alloc (.cells #[.slice NA n1 nc, .slice EA n2 ec, .slice none 0 0, .slice none 0 0] 26) := ⟨_, rfl⟩
  have sa : Wa.heap.size = w.heap.size + 1 := by rw [hWa]; simp
  have sb : Wb.heap.size = w.heap.size + 1 + 1 := by rw [hWb]; simp; omega
  obtain ⟨br, hbr⟩ : ∃ br, br = w.heap.size := ⟨_, rfl⟩
  obtain ⟨bz, hbz⟩ : ∃ bz, bz = w.heap.size + 1 := ⟨_, rfl⟩
  obtain ⟨bo, hbo⟩ : ∃ bo, bo = w.heap.size + 1 + 1 := ⟨_, rfl⟩
  have HR1 : Aside0 (GBox W1 br #[.slice NA n1 nc, .slice EA n2 ec, .slice VA n3 vc, .slice UA n4 uc]) := ⟨by
    unfold GBox
    rw [hbr, hW1, heap_alloc_old _ _ (by omega), hWb, heap_alloc_old _ _ (by omega), hWa]
    exact heap_alloc_new w _⟩
  have HZ1 : Aside0 (GBox W1 bz #[.slice none 0 0, .slice none 0 0, .slice none 0 0, .slice none 0 0]) := ⟨by
    unfold GBox
    rw [hbz, hW1, heap_alloc_old _ _ (by omega), hWb, ← sa]
    exact heap_alloc_new Wa _⟩
  have HO1 : Aside0 (GBox W1 bo #[.slice NA n1 nc, .slice EA n2 ec, .slice none 0 0, .slice none 0 0]) := ⟨by
    unfold GBox
    rw [hbo, hW1, ← sb]
    exact heap_alloc_new Wb _⟩
  have HB1 : Aside0 (Below w.heap.size w W1) := ⟨by rw [hW1, hWb, hWa]; exact below_more (below_more (below_more (Below.refl _ _) _) _) _⟩
  have HBL : Aside0 (w.heap.size ≤ br ∧ br < bz ∧ bz < bo) := ⟨by omega⟩
  rw [← hWa, ← hWb, ← hW1, ← hbo, ← hbz, ← hbr]
  clear hWa hWb hW1 sa sb hbr hbz hbo
  go_wp2
  go_loopg [8] (n3 + 1) (fun gg s8 wx => ∃ (j : Nat), j ≤ n3 ∧ n3 < gg + j ∧ s8 = .int .i64 j ∧ ∃ (l2 : List ND) (A : Option Addr) (c : Nat), Aside0 (l2.length = j ∧ l2.Perm (ns.take j)) ∧ Aside0 (GBox wx br #[.slice NA n1 nc, .slice EA n2 ec, .slice VA n3 vc, .slice UA n4 uc]) ∧ Aside0 (GBox wx bz #[.slice none 0 0, .slice none 0 0, .slice none 0 0, .slice none 0 0]) ∧ Aside0 (GBox wx bo #[.slice NA n1 nc, .slice EA n2 ec, .slice A j c, .slice none 0 0]) ∧ Aside0 (wx.ownsRow w.heap.size 29 3 (.slice A j c) j (l2.flatMap cellsND)) ∧ Aside0 (Below w.heap.size w wx))
  case atStart => exact ⟨0, by omega, by omega, rfl, [], none, 0, ⟨rfl, by simp⟩, HR1, HZ1, HO1, ⟨World.ownsRow_nil _ _ _ _⟩, HB1⟩
  case round =>
    obtain ⟨j, hj, hg, rfl, l2, A, c, HL, HR, HZ, HO, HW, HX⟩ := hrel
    have hj0 : (0 : Int) ≤ (j : Int) := by omega
    have hrc := HR.out.cells
    have hoc := HO.out.cells
    by_cases hjt : j < n3
    · have hjti : (j : Int) < (n3 : Int) := by omega
      have hjl : j < ns.length := by have := HN.out; omega
      obtain ⟨pv, hpv, hh⟩ := (HG.out.below HX.out).ns.row j hjl
      simp only at hpv hh
      subst hpv
      have hgx := ReadsG.all_N HG.out.ns _ (getD_in ns ND.zero j hjl)
      have HTK := Aside0.mk (take_getD ns ND.zero j hjl)
      obtain ⟨x, hx⟩ : ∃ x, x = ns.getD j ND.zero := ⟨_, rfl⟩
      rw [← hx] at hh hgx HTK
      obtain ⟨xid, xlb, xA, xqs, xc⟩ := x
      have HGX := Aside0.mk hgx
      have HHX : Aside0 (∀ X, Below wr.heap.size wr X → HoldsN X (pv.add (j * 3)) ⟨xid, xlb, xA, xqs, xc⟩) := ⟨fun X h => hh.below h⟩
      have HJ := Aside0.mk (And.intro hjt hg)
      obtain ⟨GJ, hGJ⟩ : ∃ GJ, GJ = gk := ⟨_, rfl⟩
      have HGJ := Aside0.mk hGJ
      rw [← hGJ] at HJ
      clear hGJ hx hh hgx hj hg hjl
      go_upto_region 6 with (fail)
      by_cases hjp : j < np
      · have hjpi : (j : Int) < (np : Int) := by omega
        have hjpl : j < pb.length := by have := HN.out; omega
        obtain ⟨pq, hpq, hpb, hpc⟩ := (HP.out.below HX.out).row j hjpl
        subst hpq
        have hzz := HP.out.num _ (getD_in pb 0 j hjpl)
        obtain ⟨z, hz⟩ : ∃ z, z = pb.getD j 0 := ⟨_, rfl⟩
        rw [← hz] at hpc hzz
        obtain ⟨hz0, hz1⟩ := hzz
        have hzw : IntKind.i64.wrap z = z := by rw [IntKind.wrap_i64]; omega
        obtain ⟨a, hadef⟩ : ∃ a, a = z.toNat % (j + 1) := ⟨_, rfl⟩
        have ha : a ≤ j := by have := Nat.mod_lt z.toNat (show 0 < j + 1 by omega); omega
        have hai : (a : Int) ≤ (j : Int) := by omega
        have ha0 : (0 : Int) ≤ (a : Int) := by omega
        have htm : z.tmod ((j : Int) + 1) = (a : Int) := by
          rw [Int.tmod_eq_emod_of_nonneg (by omega), hadef]
          have e : z = (z.toNat : Int) := by omega
          conv => lhs; rw [e]
          rfl
        have hne : ¬ (j : Int) + 1 = 0 := by omega
        have haw : IntKind.i64.wrap (a : Int) = (a : Int) := by rw [IntKind.wrap_i64]; have := hN; omega
        have hlw : IntKind.i64.wrap ((j : Int) + 1) = (j : Int) + 1 := by rw [IntKind.wrap_i64]; have := hN; omega
        have HZD := Aside0.mk (And.intro hz hadef)
        clear hz hadef hjpl hpb
        go_upto_region 7 with (fail)
        go_quiet (fail)
        have HAL : Aside0 (∀ y ∈ l2, goodND w y) := ⟨fun y hy => ReadsG.all_N HG.out.ns y (List.mem_of_mem_take (HL.out.2.subset hy))⟩
        obtain ⟨W7, hW7⟩ : ∃ W7, W7 = wr.drewN nq := ⟨_, rfl⟩
        have HB7 : Aside0 (Below wr.heap.size wr W7) := ⟨by rw [hW7]; exact below_drewQ _⟩
        rw [← hW7]
        clear hW7
        go_upto_region 8 with (fail)
        have HB7W := Aside0.mk (below_then HX.out HB7.out)
        have HR7 := Aside0.mk (HR.out.below HB7.out)
        have HZ7 := Aside0.mk (HZ.out.below HB7.out)
        have HO7 := Aside0.mk (HO.out.below HB7.out)
        have HW7 := Aside0.mk (own_below HW.out HB7.out)
        obtain ⟨hc1, hc9, hA0, hs1, A2, c2, hs2, hA2, hrd2⟩ := slice_own_N HW.out ha
        have hln := HL.out.1
        have hown7 : W7.ownsRow w.heap.size 29 3 (.slice A j c) l2.length (l2.flatMap cellsND) := by rw [hln]; exact HW7.out
        obtain ⟨Ar, cr, hvr, hr7⟩ := readsN_own hown7 (by rw [hln]; have := hN; omega) (fun y hy => (HAL.out y hy).below HB7W.out)
        rw [← (Value.slice.inj hvr).1] at hr7
        clear hvr hown7
        have HR7R := Aside0.mk hr7
        have HRD2 := Aside0.mk hrd2
        have HA2 := Aside0.mk hA2
        have HA0 := Aside0.mk hA0
        have hba := below_more (Below.refl W7.heap.size W7) (.cells #[] 29)
        have HBA := Aside0.mk hba
        have hob : (W7.alloc (.cells #[] 29)).cell? ⟨bo, 2, none⟩ = some (.slice A j c) := (HO7.out.below hba).cells 2
        have hta : a = (l2.take a).length := by rw [List.length_take, hln]; omega
        have HTA := Aside0.mk hta
        have hoe := own_empty_N W7 W7.heap.size (Nat.le_refl _)
        have HOE := Aside0.mk hoe
        clear hrd2 hA2 hA0 hln hr7 hba hta hoe hrc hoc
        go_upto_region 9 with (at_builtin; go_loud (refine app_all_NL rfl (.tmp 40) (.tmp 44) rfl W7.heap.size _ rfl HOE.out A (l2.take a) a c HTA.out rfl HA0.out ((HR7R.out.below HBA.out).take a) (by have := hN; omega) HBA.out.size ?_); intro v1 Z1 hT1 hb1; obtain ⟨A1, c1, hv1⟩ := own_shape hT1; subst hv1)
        have HZ1a : Aside0 (Below W7.heap.size W7 Z1) := ⟨HBA.out.trans hb1⟩
        have HT1 := Aside0.mk hT1
        have hrz := (HR7.out.below HZ1a.out).cells
        have hhx := HHX.out Z1 (below_then HB7.out HZ1a.out)
        obtain ⟨_, _, d0, d1, d2⟩ := hhx
        simp only at d0 d1 d2
        clear hT1 hb1 hob
        have HBB := Aside0.mk (below_more (Below.refl Z1.heap.size Z1) (.cells #[.int .i64 xid, .string xlb, .slice xA xqs.length xc] 29))
        have HT1b := Aside0.mk (HT1.out.alloc (.cells #[.int .i64 xid, .string xlb, .slice xA xqs.length xc] 29))
        go_upto_region 10 with (at_builtin; go_loud (refine app_one_NL rfl (.tmp 46) (.tmp 52) rfl W7.heap.size _ a _ rfl HT1b.out Z1.heap.size (⟨xid, xlb, xA, xqs, xc⟩ : ND) rfl (heap_alloc_new Z1 _) (by have := hN; omega) (Nat.le_trans HZ1a.out.size HBB.out.size) ?_); intro v2 Z2 hT2 hb2 hg2; obtain ⟨A3, c3, hv2⟩ := own_shape hT2; subst hv2)
        have HZ2a : Aside0 (Below W7.heap.size W7 Z2) := ⟨(HZ1a.out.trans (HBB.out.mono HZ1a.out.size)).trans hb2⟩
        have HT2 : Aside0 (Z2.ownsRow W7.heap.size 29 3 (.slice A3 (a + 1) c3) (a + 1) ((l2.take a ++ [(⟨xid, xlb, xA, xqs, xc⟩ : ND)]).flatMap cellsND)) := ⟨by rw [List.flatMap_append]; simpa using hT2⟩
        have hoz := (HO7.out.below HZ2a.out).cells
        clear hT2 hb2 hg2 hrz d0 d1 d2
        have HDL : Aside0 (j - a = (l2.drop a).length) := ⟨by rw [List.length_drop, HL.out.1]⟩
        go_upto_region 4 with (at_builtin; go_loud (refine app_list_N rfl (.tmp 54) (.tmp 58) rfl W7.heap.size _ (a + 1) (l2.take a ++ [(⟨xid, xlb, xA, xqs, xc⟩ : ND)]) rfl HT2.out A2 (l2.drop a) (j - a) c2 HDL.out rfl HA2.out (HRD2.out Z2 l2 HL.out.1 (HR7R.out.below HZ2a.out)) (by have := hN; omega) HZ2a.out.size ?_); intro v3 Z3 hT3 hb3 hg3; obtain ⟨A4, c4, hv3⟩ := own_shape hT3; subst hv3; have hb73 := HZ2a.out.trans hb3; have hfz := (HO7.out.below hb73).free; have hcl := (HO7.out.below hb73).cells)
        have HZ3a : Aside0 (Below W7.heap.size W7 Z3) := ⟨HZ2a.out.trans hb3⟩
        have hcount : a + 1 + (j - a) = j + 1 := by omega
        rw [hcount] at hT3 ⊢
        have HT3 := Aside0.mk hT3
        obtain ⟨Z4, hZ4⟩ : ∃ Z4, Z4 = Z3.setCell ⟨bo, 2, none⟩ (.slice A4 (j + 1) c4) := ⟨_, rfl⟩
        have HO3 := Aside0.mk (HO7.out.below HZ3a.out)
        have HO4 : Aside0 (GBox Z4 bo #[.slice NA n1 nc, .slice EA n2 ec, .slice A4 (j + 1) c4, .slice none 0 0]) := ⟨by rw [hZ4]; exact GBox.put HO3.out 2 _⟩
        have hk4 : ∀ k, k ≠ bo → Z4.heap[k]? = Z3.heap[k]? := fun k h => by rw [hZ4]; exact heap_setCell_other _ ⟨bo, 2, none⟩ _ _ h
        have HR4 : Aside0 (GBox Z4 br #[.slice NA n1 nc, .slice EA n2 ec, .slice (some pv) n3 vc, .slice UA n4 uc]) := ⟨(hk4 br (by have := HBL.out; omega)).trans (HR7.out.below HZ3a.out)⟩
        have HZ4 : Aside0 (GBox Z4 bz #[.slice none 0 0, .slice none 0 0, .slice none 0 0, .slice none 0 0]) := ⟨(hk4 bz (by have := HBL.out; omega)).trans (HZ7.out.below HZ3a.out)⟩
        have HX4 : Aside0 (Below w.heap.size w Z4) := ⟨by rw [hZ4]; exact below_set (below_then HB7W.out HZ3a.out) (p := ⟨bo, 2, none⟩) (by have := HBL.out; show w.heap.size ≤ bo; omega) _⟩
        have HW4 : Aside0 (Z4.ownsRow w.heap.size 29 3 (.slice A4 (j + 1) c4) (j + 1) ((l2.take a ++ [(⟨xid, xlb, xA, xqs, xc⟩ : ND)] ++ l2.drop a).flatMap cellsND)) := ⟨by rw [hZ4]; exact own_set_box (own_lower HT3.out HB7W.out.size) HO3.out (by decide)⟩
        rw [← hZ4]
        clear hT3 hb3 hg3 hb73 hfz hcl hZ4 hk4 hcount hoz hs1 hs2
        go_wp2
        go_roundg (GJ - 1)
        case measure => have := HJ.out; have := HGJ.out; omega
        case rel => exact ⟨j + 1, by have := HJ.out; omega, by have := HJ.out; omega, by first | rfl | go_num, _, A4, c4, ⟨by have := HL.out.1; simp; omega, by rw [HTK.out]; exact (put_in_N l2 _ a).trans ((HL.out.2.cons _).trans (List.perm_append_comm (l₁ := [_]) (l₂ := ns.take j)))⟩, HR4, HZ4, HO4, HW4, HX4⟩
      · have hjpi : ¬ (j : Int) < (np : Int) := by omega
        have hjpi2 : (np : Int) ≤ (j : Int) := by omega
        obtain ⟨a, hadef⟩ : ∃ a : Nat, a = 0 := ⟨_, rfl⟩
        have ha : a ≤ j := by omega
        have HAL : Aside0 (∀ y ∈ l2, goodND w y) := ⟨fun y hy => ReadsG.all_N HG.out.ns y (List.mem_of_mem_take (HL.out.2.subset hy))⟩
        go_upto_region 8 with (fail)
        obtain ⟨W7, hW7⟩ : ∃ W7, W7 = wr := ⟨_, rfl⟩
        have HB7 : Aside0 (Below wr.heap.size wr W7) := ⟨by rw [hW7]; exact Below.refl _ _⟩
        have hz0 : (0 : Int) = (a : Int) := by omega
        rw [← hW7]
        simp only [hz0]
        clear hW7 hz0 hadef
        have HB7W := Aside0.mk (below_then HX.out HB7.out)
        have HR7 := Aside0.mk (HR.out.below HB7.out)
        have HZ7 := Aside0.mk (HZ.out.below HB7.out)
        have HO7 := Aside0.mk (HO.out.below HB7.out)
        have HW7 := Aside0.mk (own_below HW.out HB7.out)
        obtain ⟨hc1, hc9, hA0, hs1, A2, c2, hs2, hA2, hrd2⟩ := slice_own_N HW.out ha
        have hln := HL.out.1
        have hown7 : W7.ownsRow w.heap.size 29 3 (.slice A j c) l2.length (l2.flatMap cellsND) := by rw [hln]; exact HW7.out
        obtain ⟨Ar, cr, hvr, hr7⟩ := readsN_own hown7 (by rw [hln]; have := hN; omega) (fun y hy => (HAL.out y hy).below HB7W.out)
        rw [← (Value.slice.inj hvr).1] at hr7
        clear hvr hown7
        have HR7R := Aside0.mk hr7
        have HRD2 := Aside0.mk hrd2
        have HA2 := Aside0.mk hA2
        have HA0 := Aside0.mk hA0
        have hba := below_more (Below.refl W7.heap.size W7) (.cells #[] 29)
        have HBA := Aside0.mk hba
        have hob : (W7.alloc (.cells #[] 29)).cell? ⟨bo, 2, none⟩ = some (.slice A j c) := (HO7.out.below hba).cells 2
        have hta : a = (l2.take a).length := by rw [List.length_take, hln]; omega
        have HTA := Aside0.mk hta
        have hoe := own_empty_N W7 W7.heap.size (Nat.le_refl _)
        have HOE := Aside0.mk hoe
        clear hrd2 hA2 hA0 hln hr7 hba hta hoe hrc hoc
        go_upto_region 9 with (at_builtin; go_loud (refine app_all_NL rfl (.tmp 40) (.tmp 44) rfl W7.heap.size _ rfl HOE.out A (l2.take a) a c HTA.out rfl HA0.out ((HR7R.out.below HBA.out).take a) (by have := hN; omega) HBA.out.size ?_); intro v1 Z1 hT1 hb1; obtain ⟨A1, c1, hv1⟩ := own_shape hT1; subst hv1)
        have HZ1a : Aside0 (Below W7.heap.size W7 Z1) := ⟨HBA.out.trans hb1⟩
        have HT1 := Aside0.mk hT1
        have hrz := (HR7.out.below HZ1a.out).cells
        have hhx := HHX.out Z1 (below_then HB7.out HZ1a.out)
        obtain ⟨_, _, d0, d1, d2⟩ := hhx
        simp only at d0 d1 d2
        clear hT1 hb1 hob
        have HBB := Aside0.mk (below_more (Below.refl Z1.heap.size Z1) (.cells #[.int .i64 xid, .string xlb, .slice xA xqs.length xc] 29))
        have HT1b := Aside0.mk (HT1.out.alloc (.cells #[.int .i64 xid, .string xlb, .slice xA xqs.length xc] 29))
        go_upto_region 10 with (at_builtin; go_loud (refine app_one_NL rfl (.tmp 46) (.tmp 52) rfl W7.heap.size _ a _ rfl HT1b.out Z1.heap.size (⟨xid, xlb, xA, xqs, xc⟩ : ND) rfl (heap_alloc_new Z1 _) (by have := hN; omega) (Nat.le_trans HZ1a.out.size HBB.out.size) ?_); intro v2 Z2 hT2 hb2 hg2; obtain ⟨A3, c3, hv2⟩ := own_shape hT2; subst hv2)
        have HZ2a : Aside0 (Below W7.heap.size W7 Z2) := ⟨(HZ1a.out.trans (HBB.out.mono HZ1a.out.size)).trans hb2⟩
        have HT2 : Aside0 (Z2.ownsRow W7.heap.size 29 3 (.slice A3 (a + 1) c3) (a + 1) ((l2.take a ++ [(⟨xid, xlb, xA, xqs, xc⟩ : ND)]).flatMap cellsND)) := ⟨by rw [List.flatMap_append]; simpa using hT2⟩
        have hoz := (HO7.out.below HZ2a.out).cells
        clear hT2 hb2 hg2 hrz d0 d1 d2
        have HDL : Aside0 (j - a = (l2.drop a).length) := ⟨by rw [List.length_drop, HL.out.1]⟩
        go_upto_region 4 with (at_builtin; go_loud (refine app_list_N rfl (.tmp 54) (.tmp 58) rfl W7.heap.size _ (a + 1) (l2.take a ++ [(⟨xid, xlb, xA, xqs, xc⟩ : ND)]) rfl HT2.out A2 (l2.drop a) (j - a) c2 HDL.out rfl HA2.out (HRD2.out Z2 l2 HL.out.1 (HR7R.out.below HZ2a.out)) (by have := hN; omega) HZ2a.out.size ?_); intro v3 Z3 hT3 hb3 hg3; obtain ⟨A4, c4, hv3⟩ := own_shape hT3; subst hv3; have hb73 := HZ2a.out.trans hb3; have hfz := (HO7.out.below hb73).free; have hcl := (HO7.out.below hb73).cells)
        have HZ3a : Aside0 (Below W7.heap.size W7 Z3) := ⟨HZ2a.out.trans hb3⟩
        have hcount : a + 1 + (j - a) = j + 1 := by omega
        rw [hcount] at hT3 ⊢
        have HT3 := Aside0.mk hT3
        obtain ⟨Z4, hZ4⟩ : ∃ Z4, Z4 = Z3.setCell ⟨bo, 2, none⟩ (.slice A4 (j + 1) c4) := ⟨_, rfl⟩
        have HO3 := Aside0.mk (HO7.out.below HZ3a.out)
        have HO4 : Aside0 (GBox Z4 bo #[.slice NA n1 nc, .slice EA n2 ec, .slice A4 (j + 1) c4, .slice none 0 0]) := ⟨by rw [hZ4]; exact GBox.put HO3.out 2 _⟩
        have hk4 : ∀ k, k ≠ bo → Z4.heap[k]? = Z3.heap[k]? := fun k h => by rw [hZ4]; exact heap_setCell_other _ ⟨bo, 2, none⟩ _ _ h
        have HR4 : Aside0 (GBox Z4 br #[.slice NA n1 nc, .slice EA n2 ec, .slice (some pv) n3 vc, .slice UA n4 uc]) := ⟨(hk4 br (by have := HBL.out; omega)).trans (HR7.out.below HZ3a.out)⟩
        have HZ4 : Aside0 (GBox Z4 bz #[.slice none 0 0, .slice none 0 0, .slice none 0 0, .slice none 0 0]) := ⟨(hk4 bz (by have := HBL.out; omega)).trans (HZ7.out.below HZ3a.out)⟩
        have HX4 : Aside0 (Below w.heap.size w Z4) := ⟨by rw [hZ4]; exact below_set (below_then HB7W.out HZ3a.out) (p := ⟨bo, 2, none⟩) (by have := HBL.out; show w.heap.size ≤ bo; omega) _⟩
        have HW4 : Aside0 (Z4.ownsRow w.heap.size 29 3 (.slice A4 (j + 1) c4) (j + 1) ((l2.take a ++ [(⟨xid, xlb, xA, xqs, xc⟩ : ND)] ++ l2.drop a).flatMap cellsND)) := ⟨by rw [hZ4]; exact own_set_box (own_lower HT3.out HB7W.out.size) HO3.out (by decide)⟩
        rw [← hZ4]
        clear hT3 hb3 hg3 hb73 hfz hcl hZ4 hk4 hcount hoz hs1 hs2
        go_wp2
        go_roundg (GJ - 1)
        case measure => have := HJ.out; have := HGJ.out; omega
        case rel => exact ⟨j + 1, by have := HJ.out; omega, by have := HJ.out; omega, by first | rfl | go_num, _, A4, c4, ⟨by have := HL.out.1; simp; omega, by rw [HTK.out]; exact (put_in_N l2 _ a).trans ((HL.out.2.cons _).trans (List.perm_append_comm (l₁ := [_]) (l₂ := ns.take j)))⟩, HR4, HZ4, HO4, HW4, HX4⟩
    · have hjn : j = n3 := by omega
      subst j
      obtain ⟨wd, rfl⟩ : ∃ wd : World, wd = wr := ⟨_, rfl⟩
      obtain ⟨An, rfl⟩ : ∃ An : Option Addr, An = A := ⟨_, rfl⟩
      obtain ⟨cn, rfl⟩ : ∃ cn : Nat, cn = c := ⟨_, rfl⟩
      obtain ⟨ln, rfl⟩ : ∃ ln : List ND, ln = l2 := ⟨_, rfl⟩
      have HLN := HL
      have HRD := HR
      have HZD := HZ
      have HOD := HO
      have HWND := HW
      have HXD := HX
      clear HL HR HZ HO HW HX hj hg hj0 hjt
      go_wp2
      clear hrc hoc
      go_loopg [11] (n4 + 1) (fun gg s11 wx => ∃ (j : Nat), j ≤ n4 ∧ n4 < gg + j ∧ s11 = .int .i64 j ∧ ∃ (m : Nat) (l2 ll : List ED) (A : Option Addr) (c : Nat), Aside0 (l2.length = m ∧ l2.Perm ll ∧ ll.Sublist (es.take j) ∧ (db = [] → ll = es.take j)) ∧ Aside0 (GBox wx br #[.slice NA n1 nc, .slice EA n2 ec, .slice VA n3 vc, .slice UA n4 uc]) ∧ Aside0 (GBox wx bz #[.slice none 0 0, .slice none 0 0, .slice none 0 0, .slice none 0 0]) ∧ Aside0 (GBox wx bo #[.slice NA n1 nc, .slice EA n2 ec, .slice An n3 cn, .slice A m c]) ∧ Aside0 (wx.ownsRow w.heap.size 31 5 (.slice A m c) m (l2.flatMap cellsED)) ∧ Aside0 (wx.ownsRow w.heap.size 29 3 (.slice An n3 cn) n3 (ln.flatMap cellsND)) ∧ Aside0 (Below w.heap.size w wx))
      case atStart => exact ⟨0, by omega, by omega, rfl, 0, [], [], none, 0, ⟨rfl, List.Perm.refl _, by simp, fun _ => by simp⟩, HRD, HZD, HOD, ⟨World.ownsRow_nil _ _ _ _⟩, HWND, HXD⟩
      case round =>
        obtain ⟨j, hj, hg, rfl, m, l2, ll, A, c, HL, HR, HZ, HO, HW, HWN, HX⟩ := hrel
        have hj0 : (0 : Int) ≤ (j : Int) := by omega
        have hrc := HR.out.cells
        have hoc := HO.out.cells
        have hmj : m ≤ j := by
          have h1 := HL.out.2.2.1.length_le
          have h2 := HL.out.2.1.length_eq
          have h3 := HL.out.1
          rw [List.length_take] at h1
          omega
        by_cases hjt : j < n4
        · have hjti : (j : Int) < (n4 : Int) := by omega
          have hjl : j < es.length := by have := HN.out; omega
          obtain ⟨pv, hpv, hh⟩ := (HG.out.below HX.out).es.row j hjl
          simp only at hpv hh
          subst hpv
          have hgx := ReadsG.all_E HG.out.es _ (getD_in es ED.zero j hjl)
          have HTK := Aside0.mk (take_getD es ED.zero j hjl)
          obtain ⟨x, hx⟩ : ∃ x, x = es.getD j ED.zero := ⟨_, rfl⟩
          rw [← hx] at hh hgx HTK
          obtain ⟨xid, xlb, xf, xt, xA, xqs, xc⟩ := x
          have HGX := Aside0.mk hgx
          have HHX : Aside0 (∀ X, Below wr.heap.size wr X → HoldsE X (pv.add (j * 5)) ⟨xid, xlb, xf, xt, xA, xqs, xc⟩) := ⟨fun X h => hh.below h⟩
          have HJ := Aside0.mk (And.intro hjt hg)
          obtain ⟨GJ, hGJ⟩ : ∃ GJ, GJ = gk := ⟨_, rfl⟩
          have HGJ := Aside0.mk hGJ
          rw [← hGJ] at HJ
          clear hGJ hx hh hgx hj hg hjl
          by_cases hjd : j < nd
          · have hjdi : (j : Int) < (nd : Int) := by omega
            have hjdl : j < db.length := by have := HN.out; omega
            obtain ⟨dq, hdq, hdb, hdc⟩ := (HD.out.below HX.out).row j hjdl
            subst hdq
            have hdz := HD.out.num _ (getD_in db 0 j hjdl)
            obtain ⟨y, hy⟩ : ∃ y, y = db.getD j 0 := ⟨_, rfl⟩
            rw [← hy] at hdc hdz
            obtain ⟨bv, hbv⟩ : ∃ bv, bv = (bits BinOp.and IntKind.u8 y 1 == 1) := ⟨_, rfl⟩
            have hbv2 := hbv.symm
            have HDB : Aside0 (¬ db = []) := ⟨fun e => by rw [e] at hjdl; simp at hjdl⟩
            clear hbv hy hjdl
            cases bv with
            | true =>
              go_wp2
              go_roundg (GJ - 1)
              case measure => have := HJ.out; have := HGJ.out; omega
              case rel => exact ⟨j + 1, by have := HJ.out; omega, by have := HJ.out; omega, by first | rfl | go_num, m, l2, ll, A, c, ⟨HL.out.1, HL.out.2.1, by rw [HTK.out]; exact HL.out.2.2.1.trans (List.sublist_append_left _ _), fun e => absurd e HDB.out⟩, HR, HZ, HO, HW, HWN, HX⟩
            | false =>
              go_upto_region 16 with (fail)
              by_cases hjp : j < np
              · have hjpi : (j : Int) < (np : Int) := by omega
                have hjpl : j < pb.length := by have := HN.out; omega
                obtain ⟨pq, hpq, hpb, hpc⟩ := (HP.out.below HX.out).row j hjpl
                subst hpq
                have hzz := HP.out.num _ (getD_in pb 0 j hjpl)
                obtain ⟨z, hz⟩ : ∃ z, z = pb.getD j 0 := ⟨_, rfl⟩
                rw [← hz] at hpc hzz
                obtain ⟨hz0, hz1⟩ := hzz
                obtain ⟨z2, hz2⟩ : ∃ z2, z2 = z / 2 := ⟨_, rfl⟩
                have hz20 : 0 ≤ z2 := by omega
                have hz21 : z2 < 256 := by omega
                have hshr : IntKind.u8.wrap (z / 2 ^ 1) = z2 := by rw [hz2]; simp [IntKind.wrap, IntKind.signed, IntKind.bits]; omega
                have hshr2 : z >>> 1 = z2 := by rw [hz2]; exact Int.shiftRight_eq_div_pow z 1
                have hzw : IntKind.i64.wrap z2 = z2 := by rw [IntKind.wrap_i64]; omega
                obtain ⟨a, hadef⟩ : ∃ a, a = z2.toNat % (m + 1) := ⟨_, rfl⟩
                have ha : a ≤ m := by have := Nat.mod_lt z2.toNat (show 0 < m + 1 by omega); omega
                have hai : (a : Int) ≤ (m : Int) := by omega
                have ha0 : (0 : Int) ≤ (a : Int) := by omega
                have htm : z2.tmod ((m : Int) + 1) = (a : Int) := by
                  rw [Int.tmod_eq_emod_of_nonneg (by omega), hadef]
                  have e : z2 = (z2.toNat : Int) := by omega
                  conv => lhs; rw [e]
                  rfl
                have htm2 : (z / 2) % ((m : Int) + 1) = (a : Int) := by
                  rw [← hz2, ← Int.tmod_eq_emod_of_nonneg (by omega)]
                  exact htm
                have hne : ¬ (m : Int) + 1 = 0 := by omega
                have haw : IntKind.i64.wrap (a : Int) = (a : Int) := by rw [IntKind.wrap_i64]; have := hN; omega
                have hlw : IntKind.i64.wrap ((m : Int) + 1) = (m : Int) + 1 := by rw [IntKind.wrap_i64]; have := hN; omega
                have HZD := Aside0.mk (And.intro hz hadef)
                clear hz hadef hjpl hpb
                go_upto_region 17 with (fail)
                go_quiet (fail)
                have HAL : Aside0 (∀ y ∈ l2, goodED w y) := ⟨fun y hy => ReadsG.all_E HG.out.es y (List.mem_of_mem_take (HL.out.2.2.1.subset (HL.out.2.1.subset hy)))⟩
                obtain ⟨W7, hW7⟩ : ∃ W7, W7 = wr.drewN nq := ⟨_, rfl⟩
                have HB7 : Aside0 (Below wr.heap.size wr W7) := ⟨by rw [hW7]; exact below_drewQ _⟩
                rw [← hW7]
                clear hW7
                go_upto_region 18 with (fail)
                have HB7W := Aside0.mk (below_then HX.out HB7.out)
                have HR7 := Aside0.mk (HR.out.below HB7.out)
                have HZ7 := Aside0.mk (HZ.out.below HB7.out)
                have HO7 := Aside0.mk (HO.out.below HB7.out)
                have HW7 := Aside0.mk (own_below HW.out HB7.out)
                obtain ⟨hc1, hc9, hA0, hs1, A2, c2, hs2, hA2, hrd2⟩ := slice_own_E HW.out ha
                have hln := HL.out.1
                have hown7 : W7.ownsRow w.heap.size 31 5 (.slice A m c) l2.length (l2.flatMap cellsED) := by rw [hln]; exact HW7.out
                obtain ⟨Ar, cr, hvr, hr7⟩ := readsE_own hown7 (by rw [hln]; have := hN; omega) (fun y hy => (HAL.out y hy).below HB7W.out)
                rw [← (Value.slice.inj hvr).1] at hr7
                clear hvr hown7
                have HR7R := Aside0.mk hr7
                have HRD2 := Aside0.mk hrd2
                have HA2 := Aside0.mk hA2
                have HA0 := Aside0.mk hA0
                have hba := below_more (Below.refl W7.heap.size W7) (.cells #[] 31)
                have HBA := Aside0.mk hba
                have hob : (W7.alloc (.cells #[] 31)).cell? ⟨bo, 3, none⟩ = some (.slice A m c) := (HO7.out.below hba).cells 3
                have hta : a = (l2.take a).length := by rw [List.length_take, hln]; omega
                have HTA := Aside0.mk hta
                have hoe := own_empty_E W7 W7.heap.size (Nat.le_refl _)
                have HOE := Aside0.mk hoe
                clear hrd2 hA2 hA0 hln hr7 hba hta hoe hrc hoc
                go_upto_region 19 with (at_builtin; go_loud (refine app_all_EL rfl (.tmp 95) (.tmp 99) rfl W7.heap.size _ rfl HOE.out A (l2.take a) a c HTA.out rfl HA0.out ((HR7R.out.below HBA.out).take a) (by have := hN; omega) HBA.out.size ?_); intro v1 Z1 hT1 hb1; obtain ⟨A1, c1, hv1⟩ := own_shape hT1; subst hv1)
                have HZ1a : Aside0 (Below W7.heap.size W7 Z1) := ⟨HBA.out.trans hb1⟩
                have HT1 := Aside0.mk hT1
                have hrz := (HR7.out.below HZ1a.out).cells
                have hhx := HHX.out Z1 (below_then HB7.out HZ1a.out)
                obtain ⟨_, _, d0, d1, d2, d3, d4⟩ := hhx
                simp only at d0 d1 d2 d3 d4
                clear hT1 hb1 hob
                have HBB := Aside0.mk (below_more (Below.refl Z1.heap.size Z1) (.cells #[.int .i64 xid, .string xlb, .int .i64 xf, .int .i64 xt, .slice xA xqs.length xc] 31))
                have HT1b := Aside0.mk (HT1.out.alloc (.cells #[.int .i64 xid, .string xlb, .int .i64 xf, .int .i64 xt, .slice xA xqs.length xc] 31))
                go_upto_region 20 with (at_builtin; go_loud (refine app_one_EL rfl (.tmp 101) (.tmp 107) rfl W7.heap.size _ a _ rfl HT1b.out Z1.heap.size (⟨xid, xlb, xf, xt, xA, xqs, xc⟩ : ED) rfl (heap_alloc_new Z1 _) (by have := hN; omega) (Nat.le_trans HZ1a.out.size HBB.out.size) ?_); intro v2 Z2 hT2 hb2 hg2; obtain ⟨A3, c3, hv2⟩ := own_shape hT2; subst hv2)
                have HZ2a : Aside0 (Below W7.heap.size W7 Z2) := ⟨(HZ1a.out.trans (HBB.out.mono HZ1a.out.size)).trans hb2⟩
                have HT2 : Aside0 (Z2.ownsRow W7.heap.size 31 5 (.slice A3 (a + 1) c3) (a + 1) ((l2.take a ++ [(⟨xid, xlb, xf, xt, xA, xqs, xc⟩ : ED)]).flatMap cellsED)) := ⟨by rw [List.flatMap_append]; simpa using hT2⟩
                have hoz := (HO7.out.below HZ2a.out).cells
                clear hT2 hb2 hg2 hrz d0 d1 d2 d3 d4
                have HDL : Aside0 (m - a = (l2.drop a).length) := ⟨by rw [List.length_drop, HL.out.1]⟩
                go_upto_region 13 with (at_builtin; go_loud (refine app_list_E rfl (.tmp 109) (.tmp 113) rfl W7.heap.size _ (a + 1) (l2.take a ++ [(⟨xid, xlb, xf, xt, xA, xqs, xc⟩ : ED)]) rfl HT2.out A2 (l2.drop a) (m - a) c2 HDL.out rfl HA2.out (HRD2.out Z2 l2 HL.out.1 (HR7R.out.below HZ2a.out)) (by have := hN; omega) HZ2a.out.size ?_); intro v3 Z3 hT3 hb3 hg3; obtain ⟨A4, c4, hv3⟩ := own_shape hT3; subst hv3; have hb73 := HZ2a.out.trans hb3; have hfz := (HO7.out.below hb73).free; have hcl := (HO7.out.below hb73).cells)
                have HZ3a : Aside0 (Below W7.heap.size W7 Z3) := ⟨HZ2a.out.trans hb3⟩
                have hcount : a + 1 + (m - a) = m + 1 := by omega
                rw [hcount] at hT3 ⊢
                have HT3 := Aside0.mk hT3
                obtain ⟨Z4, hZ4⟩ : ∃ Z4, Z4 = Z3.setCell ⟨bo, 3, none⟩ (.slice A4 (m + 1) c4) := ⟨_, rfl⟩
                have HO3 := Aside0.mk (HO7.out.below HZ3a.out)
                have HO4 : Aside0 (GBox Z4 bo #[.slice NA n1 nc, .slice EA n2 ec, .slice An n3 cn, .slice A4 (m + 1) c4]) := ⟨by rw [hZ4]; exact GBox.put HO3.out 3 _⟩
                have hk4 : ∀ k, k ≠ bo → Z4.heap[k]? = Z3.heap[k]? := fun k h => by rw [hZ4]; exact heap_setCell_other _ ⟨bo, 3, none⟩ _ _ h
                have HR4 : Aside0 (GBox Z4 br #[.slice NA n1 nc, .slice EA n2 ec, .slice VA n3 vc, .slice (some pv) n4 uc]) := ⟨(hk4 br (by have := HBL.out; omega)).trans (HR7.out.below HZ3a.out)⟩
                have HZ4 : Aside0 (GBox Z4 bz #[.slice none 0 0, .slice none 0 0, .slice none 0 0, .slice none 0 0]) := ⟨(hk4 bz (by have := HBL.out; omega)).trans (HZ7.out.below HZ3a.out)⟩
                have HX4 : Aside0 (Below w.heap.size w Z4) := ⟨by rw [hZ4]; exact below_set (below_then HB7W.out HZ3a.out) (p := ⟨bo, 3, none⟩) (by have := HBL.out; show w.heap.size ≤ bo; omega) _⟩
                have HW4 : Aside0 (Z4.ownsRow w.heap.size 31 5 (.slice A4 (m + 1) c4) (m + 1) ((l2.take a ++ [(⟨xid, xlb, xf, xt, xA, xqs, xc⟩ : ED)] ++ l2.drop a).flatMap cellsED)) := ⟨by rw [hZ4]; exact own_set_box (own_lower HT3.out HB7W.out.size) HO3.out (by decide)⟩
                have HWN4 : Aside0 (Z4.ownsRow w.heap.size 29 3 (.slice An n3 cn) n3 (ln.flatMap cellsND)) := ⟨by rw [hZ4]; exact own_set_box (own_below HWN.out (below_then HB7.out HZ3a.out)) HO3.out (by decide)⟩
                rw [← hZ4]
                clear hT3 hb3 hg3 hb73 hfz hcl hZ4 hk4 hcount hoz hs1 hs2
                go_wp2
                go_roundg (GJ - 1)
                case measure => have := HJ.out; have := HGJ.out; omega
                case rel => exact ⟨j + 1, by have := HJ.out; omega, by have := HJ.out; omega, by first | rfl | go_num, m + 1, _, ll ++ [(⟨xid, xlb, xf, xt, xA, xqs, xc⟩ : ED)], A4, c4, ⟨by have := HL.out.1; simp; omega, (put_in_E l2 _ a).trans ((HL.out.2.1.cons _).trans (List.perm_append_comm (l₁ := [_]) (l₂ := ll))), by rw [HTK.out]; exact HL.out.2.2.1.append (List.Sublist.refl _), fun e => by rw [HTK.out, HL.out.2.2.2 e]⟩, HR4, HZ4, HO4, HW4, HWN4, HX4⟩
              · have hjpi : ¬ (j : Int) < (np : Int) := by omega
                have hjpi2 : (np : Int) ≤ (j : Int) := by omega
                obtain ⟨a, hadef⟩ : ∃ a : Nat, a = 0 := ⟨_, rfl⟩
                have ha : a ≤ m := by omega
                have HAL : Aside0 (∀ y ∈ l2, goodED w y) := ⟨fun y hy => ReadsG.all_E HG.out.es y (List.mem_of_mem_take (HL.out.2.2.1.subset (HL.out.2.1.subset hy)))⟩
                go_upto_region 18 with (fail)
                obtain ⟨W7, hW7⟩ : ∃ W7, W7 = wr := ⟨_, rfl⟩
                have HB7 : Aside0 (Below wr.heap.size wr W7) := ⟨by rw [hW7]; exact Below.refl _ _⟩
                have hz0 : (0 : Int) = (a : Int) := by omega
                rw [← hW7]
                simp only [hz0]
                clear hW7 hz0 hadef
                have HB7W := Aside0.mk (below_then HX.out HB7.out)
                have HR7 := Aside0.mk (HR.out.below HB7.out)
                have HZ7 := Aside0.mk (HZ.out.below HB7.out)
                have HO7 := Aside0.mk (HO.out.below HB7.out)
                have HW7 := Aside0.mk (own_below HW.out HB7.out)
                obtain ⟨hc1, hc9, hA0, hs1, A2, c2, hs2, hA2, hrd2⟩ := slice_own_E HW.out ha
                have hln := HL.out.1
                have hown7 : W7.ownsRow w.heap.size 31 5 (.slice A m c) l2.length (l2.flatMap cellsED) := by rw [hln]; exact HW7.out
                obtain ⟨Ar, cr, hvr, hr7⟩ := readsE_own hown7 (by rw [hln]; have := hN; omega) (fun y hy => (HAL.out y hy).below HB7W.out)
                rw [← (Value.slice.inj hvr).1] at hr7
                clear hvr hown7
                have HR7R := Aside0.mk hr7
                have HRD2 := Aside0.mk hrd2
                have HA2 := Aside0.mk hA2
                have HA0 := Aside0.mk hA0
                have hba := below_more (Below.refl W7.heap.size W7) (.cells #[] 31)
                have HBA := Aside0.mk hba
                have hob : (W7.alloc (.cells #[] 31)).cell? ⟨bo, 3, none⟩ = some (.slice A m c) := (HO7.out.below hba).cells 3
                have hta : a = (l2.take a).length := by rw [List.length_take, hln]; omega
                have HTA := Aside0.mk hta
                have hoe := own_empty_E W7 W7.heap.size (Nat.le_refl _)
                have HOE := Aside0.mk hoe
                clear hrd2 hA2 hA0 hln hr7 hba hta hoe hrc hoc
                go_upto_region 19 with (at_builtin; go_loud (refine app_all_EL rfl (.tmp 95) (.tmp 99) rfl W7.heap.size _ rfl HOE.out A (l2.take a) a c HTA.out rfl HA0.out ((HR7R.out.below HBA.out).take a) (by have := hN; omega) HBA.out.size ?_); intro v1 Z1 hT1 hb1; obtain ⟨A1, c1, hv1⟩ := own_shape hT1; subst hv1)
                have HZ1a : Aside0 (Below W7.heap.size W7 Z1) := ⟨HBA.out.trans hb1⟩
                have HT1 := Aside0.mk hT1
                have hrz := (HR7.out.below HZ1a.out).cells
                have hhx := HHX.out Z1 (below_then HB7.out HZ1a.out)
                obtain ⟨_, _, d0, d1, d2, d3, d4⟩ := hhx
                simp only at d0 d1 d2 d3 d4
                clear hT1 hb1 hob
                have HBB := Aside0.mk (below_more (Below.refl Z1.heap.size Z1) (.cells #[.int .i64 xid, .string xlb, .int .i64 xf, .int .i64 xt, .slice xA xqs.length xc] 31))
                have HT1b := Aside0.mk (HT1.out.alloc (.cells #[.int .i64 xid, .string xlb, .int .i64 xf, .int .i64 xt, .slice xA xqs.length xc] 31))
                go_upto_region 20 with (at_builtin; go_loud (refine app_one_EL rfl (.tmp 101) (.tmp 107) rfl W7.heap.size _ a _ rfl HT1b.out Z1.heap.size (⟨xid, xlb, xf, xt, xA, xqs, xc⟩ : ED) rfl (heap_alloc_new Z1 _) (by have := hN; omega) (Nat.le_trans HZ1a.out.size HBB.out.size) ?_); intro v2 Z2 hT2 hb2 hg2; obtain ⟨A3, c3, hv2⟩ := own_shape hT2; subst hv2)
                have HZ2a : Aside0 (Below W7.heap.size W7 Z2) := ⟨(HZ1a.out.trans (HBB.out.mono HZ1a.out.size)).trans hb2⟩
                have HT2 : Aside0 (Z2.ownsRow W7.heap.size 31 5 (.slice A3 (a + 1) c3) (a + 1) ((l2.take a ++ [(⟨xid, xlb, xf, xt, xA, xqs, xc⟩ : ED)]).flatMap cellsED)) := ⟨by rw [List.flatMap_append]; simpa using hT2⟩
                have hoz := (HO7.out.below HZ2a.out).cells
                clear hT2 hb2 hg2 hrz d0 d1 d2 d3 d4
                have HDL : Aside0 (m - a = (l2.drop a).length) := ⟨by rw [List.length_drop, HL.out.1]⟩
                go_upto_region 13 with (at_builtin; go_loud (refine app_list_E rfl (.tmp 109) (.tmp 113) rfl W7.heap.size _ (a + 1) (l2.take a ++ [(⟨xid, xlb, xf, xt, xA, xqs, xc⟩ : ED)]) rfl HT2.out A2 (l2.drop a) (m - a) c2 HDL.out rfl HA2.out (HRD2.out Z2 l2 HL.out.1 (HR7R.out.below HZ2a.out)) (by have := hN; omega) HZ2a.out.size ?_); intro v3 Z3 hT3 hb3 hg3; obtain ⟨A4, c4, hv3⟩ := own_shape hT3; subst hv3; have hb73 := HZ2a.out.trans hb3; have hfz := (HO7.out.below hb73).free; have hcl := (HO7.out.below hb73).cells)
                have HZ3a : Aside0 (Below W7.heap.size W7 Z3) := ⟨HZ2a.out.trans hb3⟩
                have hcount : a + 1 + (m - a) = m + 1 := by omega
                rw [hcount] at hT3 ⊢
                have HT3 := Aside0.mk hT3
                obtain ⟨Z4, hZ4⟩ : ∃ Z4, Z4 = Z3.setCell ⟨bo, 3, none⟩ (.slice A4 (m + 1) c4) := ⟨_, rfl⟩
                have HO3 := Aside0.mk (HO7.out.below HZ3a.out)
                have HO4 : Aside0 (GBox Z4 bo #[.slice NA n1 nc, .slice EA n2 ec, .slice An n3 cn, .slice A4 (m + 1) c4]) := ⟨by rw [hZ4]; exact GBox.put HO3.out 3 _⟩
                have hk4 : ∀ k, k ≠ bo → Z4.heap[k]? = Z3.heap[k]? := fun k h => by rw [hZ4]; exact heap_setCell_other _ ⟨bo, 3, none⟩ _ _ h
                have HR4 : Aside0 (GBox Z4 br #[.slice NA n1 nc, .slice EA n2 ec, .slice VA n3 vc, .slice (some pv) n4 uc]) := ⟨(hk4 br (by have := HBL.out; omega)).trans (HR7.out.below HZ3a.out)⟩
                have HZ4 : Aside0 (GBox Z4 bz #[.slice none 0 0, .slice none 0 0, .slice none 0 0, .slice none 0 0]) := ⟨(hk4 bz (by have := HBL.out; omega)).trans (HZ7.out.below HZ3a.out)⟩
                have HX4 : Aside0 (Below w.heap.size w Z4) := ⟨by rw [hZ4]; exact below_set (below_then HB7W.out HZ3a.out) (p := ⟨bo, 3, none⟩) (by have := HBL.out; show w.heap.size ≤ bo; omega) _⟩
                have HW4 : Aside0 (Z4.ownsRow w.heap.size 31 5 (.slice A4 (m + 1) c4) (m + 1) ((l2.take a ++ [(⟨xid, xlb, xf, xt, xA, xqs, xc⟩ : ED)] ++ l2.drop a).flatMap cellsED)) := ⟨by rw [hZ4]; exact own_set_box (own_lower HT3.out HB7W.out.size) HO3.out (by decide)⟩
                have HWN4 : Aside0 (Z4.ownsRow w.heap.size 29 3 (.slice An n3 cn) n3 (ln.flatMap cellsND)) := ⟨by rw [hZ4]; exact own_set_box (own_below HWN.out (below_then HB7.out HZ3a.out)) HO3.out (by decide)⟩
                rw [← hZ4]
                clear hT3 hb3 hg3 hb73 hfz hcl hZ4 hk4 hcount hoz hs1 hs2
                go_wp2
                go_roundg (GJ - 1)
                case measure => have := HJ.out; have := HGJ.out; omega
                case rel => exact ⟨j + 1, by have := HJ.out; omega, by have := HJ.out; omega, by first | rfl | go_num, m + 1, _, ll ++ [(⟨xid, xlb, xf, xt, xA, xqs, xc⟩ : ED)], A4, c4, ⟨by have := HL.out.1; simp; omega, (put_in_E l2 _ a).trans ((HL.out.2.1.cons _).trans (List.perm_append_comm (l₁ := [_]) (l₂ := ll))), by rw [HTK.out]; exact HL.out.2.2.1.append (List.Sublist.refl _), fun e => by rw [HTK.out, HL.out.2.2.2 e]⟩, HR4, HZ4, HO4, HW4, HWN4, HX4⟩
          · have hjdi : ¬ (j : Int) < (nd : Int) := by omega
            have hjdi2 : (nd : Int) ≤ (j : Int) := by omega
            go_upto_region 16 with (fail)
            by_cases hjp : j < np
            · have hjpi : (j : Int) < (np : Int) := by omega
              have hjpl : j < pb.length := by have := HN.out; omega
              obtain ⟨pq, hpq, hpb, hpc⟩ := (HP.out.below HX.out).row j hjpl
              subst hpq
              have hzz := HP.out.num _ (getD_in pb 0 j hjpl)
              obtain ⟨z, hz⟩ : ∃ z, z = pb.getD j 0 := ⟨_, rfl⟩
              rw [← hz] at hpc hzz
              obtain ⟨hz0, hz1⟩ := hzz
              obtain ⟨z2, hz2⟩ : ∃ z2, z2 = z / 2 := ⟨_, rfl⟩
              have hz20 : 0 ≤ z2 := by omega
              have hz21 : z2 < 256 := by omega
              have hshr : IntKind.u8.wrap (z / 2 ^ 1) = z2 := by rw [hz2]; simp [IntKind.wrap, IntKind.signed, IntKind.bits]; omega
              have hshr2 : z >>> 1 = z2 := by rw [hz2]; exact Int.shiftRight_eq_div_pow z 1
              have hzw : IntKind.i64.wrap z2 = z2 := by rw [IntKind.wrap_i64]; omega
              obtain ⟨a, hadef⟩ : ∃ a, a = z2.toNat % (m + 1) := ⟨_, rfl⟩
              have ha : a ≤ m := by have := Nat.mod_lt z2.toNat (show 0 < m + 1 by omega); omega
              have hai : (a : Int) ≤ (m : Int) := by omega
              have ha0 : (0 : Int) ≤ (a : Int) := by omega
              have htm : z2.tmod ((m : Int) + 1) = (a : Int) := by
                rw [Int.tmod_eq_emod_of_nonneg (by omega), hadef]
                have e : z2 = (z2.toNat : Int) := by omega
                conv => lhs; rw [e]
                rfl
              have htm2 : (z / 2) % ((m : Int) + 1) = (a : Int) := by
                rw [← hz2, ← Int.tmod_eq_emod_of_nonneg (by omega)]
                exact htm
              have hne : ¬ (m : Int) + 1 = 0 := by omega
              have haw : IntKind.i64.wrap (a : Int) = (a : Int) := by rw [IntKind.wrap_i64]; have := hN; omega
              have hlw : IntKind.i64.wrap ((m : Int) + 1) = (m : Int) + 1 := by rw [IntKind.wrap_i64]; have := hN; omega
              have HZD := Aside0.mk (And.intro hz hadef)
              clear hz hadef hjpl hpb
              go_upto_region 17 with (fail)
              go_quiet (fail)
              have HAL : Aside0 (∀ y ∈ l2, goodED w y) := ⟨fun y hy => ReadsG.all_E HG.out.es y (List.mem_of_mem_take (HL.out.2.2.1.subset (HL.out.2.1.subset hy)))⟩
              obtain ⟨W7, hW7⟩ : ∃ W7, W7 = wr.drewN nq := ⟨_, rfl⟩
              have HB7 : Aside0 (Below wr.heap.size wr W7) := ⟨by rw [hW7]; exact below_drewQ _⟩
              rw [← hW7]
              clear hW7
              go_upto_region 18 with (fail)
              have HB7W := Aside0.mk (below_then HX.out HB7.out)
              have HR7 := Aside0.mk (HR.out.below HB7.out)
              have HZ7 := Aside0.mk (HZ.out.below HB7.out)
              have HO7 := Aside0.mk (HO.out.below HB7.out)
              have HW7 := Aside0.mk (own_below HW.out HB7.out)
              obtain ⟨hc1, hc9, hA0, hs1, A2, c2, hs2, hA2, hrd2⟩ := slice_own_E HW.out ha
              have hln := HL.out.1
              have hown7 : W7.ownsRow w.heap.size 31 5 (.slice A m c) l2.length (l2.flatMap cellsED) := by rw [hln]; exact HW7.out
              obtain ⟨Ar, cr, hvr, hr7⟩ := readsE_own hown7 (by rw [hln]; have := hN; omega) (fun y hy => (HAL.out y hy).below HB7W.out)
              rw [← (Value.slice.inj hvr).1] at hr7
              clear hvr hown7
              have HR7R := Aside0.mk hr7
              have HRD2 := Aside0.mk hrd2
              have HA2 := Aside0.mk hA2
              have HA0 := Aside0.mk hA0
              have hba := below_more (Below.refl W7.heap.size W7) (.cells #[] 31)
              have HBA := Aside0.mk hba
              have hob : (W7.alloc (.cells #[] 31)).cell? ⟨bo, 3, none⟩ = some (.slice A m c) := (HO7.out.below hba).cells 3
              have hta : a = (l2.take a).length := by rw [List.length_take, hln]; omega
              have HTA := Aside0.mk hta
              have hoe := own_empty_E W7 W7.heap.size (Nat.le_refl _)
              have HOE := Aside0.mk hoe
              clear hrd2 hA2 hA0 hln hr7 hba hta hoe hrc hoc
              go_upto_region 19 with (at_builtin; go_loud (refine app_all_EL rfl (.tmp 95) (.tmp 99) rfl W7.heap.size _ rfl HOE.out A (l2.take a) a c HTA.out rfl HA0.out ((HR7R.out.below HBA.out).take a) (by have := hN; omega) HBA.out.size ?_); intro v1 Z1 hT1 hb1; obtain ⟨A1, c1, hv1⟩ := own_shape hT1; subst hv1)
              have HZ1a : Aside0 (Below W7.heap.size W7 Z1) := ⟨HBA.out.trans hb1⟩
              have HT1 := Aside0.mk hT1
              have hrz := (HR7.out.below HZ1a.out).cells
              have hhx := HHX.out Z1 (below_then HB7.out HZ1a.out)
              obtain ⟨_, _, d0, d1, d2, d3, d4⟩ := hhx
              simp only at d0 d1 d2 d3 d4
              clear hT1 hb1 hob
              have HBB := Aside0.mk (below_more (Below.refl Z1.heap.size Z1) (.cells #[.int .i64 xid, .string xlb, .int .i64 xf, .int .i64 xt, .slice xA xqs.length xc] 31))
              have HT1b := Aside0.mk (HT1.out.alloc (.cells #[.int .i64 xid, .string xlb, .int .i64 xf, .int .i64 xt, .slice xA xqs.length xc] 31))
              go_upto_region 20 with (at_builtin; go_loud (refine app_one_EL rfl (.tmp 101) (.tmp 107) rfl W7.heap.size _ a _ rfl HT1b.out Z1.heap.size (⟨xid, xlb, xf, xt, xA, xqs, xc⟩ : ED) rfl (heap_alloc_new Z1 _) (by have := hN; omega) (Nat.le_trans HZ1a.out.size HBB.out.size) ?_); intro v2 Z2 hT2 hb2 hg2; obtain ⟨A3, c3, hv2⟩ := own_shape hT2; subst hv2)
              have HZ2a : Aside0 (Below W7.heap.size W7 Z2) := ⟨(HZ1a.out.trans (HBB.out.mono HZ1a.out.size)).trans hb2⟩
              have HT2 : Aside0 (Z2.ownsRow W7.heap.size 31 5 (.slice A3 (a + 1) c3) (a + 1) ((l2.take a ++ [(⟨xid, xlb, xf, xt, xA, xqs, xc⟩ : ED)]).flatMap cellsED)) := ⟨by rw [List.flatMap_append]; simpa using hT2⟩
              have hoz := (HO7.out.below HZ2a.out).cells
              clear hT2 hb2 hg2 hrz d0 d1 d2 d3 d4
              have HDL : Aside0 (m - a = (l2.drop a).length) := ⟨by rw [List.length_drop, HL.out.1]⟩
              go_upto_region 13 with (at_builtin; go_loud (refine app_list_E rfl (.tmp 109) (.tmp 113) rfl W7.heap.size _ (a + 1) (l2.take a ++ [(⟨xid, xlb, xf, xt, xA, xqs, xc⟩ : ED)]) rfl HT2.out A2 (l2.drop a) (m - a) c2 HDL.out rfl HA2.out (HRD2.out Z2 l2 HL.out.1 (HR7R.out.below HZ2a.out)) (by have := hN; omega) HZ2a.out.size ?_); intro v3 Z3 hT3 hb3 hg3; obtain ⟨A4, c4, hv3⟩ := own_shape hT3; subst hv3; have hb73 := HZ2a.out.trans hb3; have hfz := (HO7.out.below hb73).free; have hcl := (HO7.out.below hb73).cells)
              have HZ3a : Aside0 (Below W7.heap.size W7 Z3) := ⟨HZ2a.out.trans hb3⟩
              have hcount : a + 1 + (m - a) = m + 1 := by omega
              rw [hcount] at hT3 ⊢
              have HT3 := Aside0.mk hT3
              obtain ⟨Z4, hZ4⟩ : ∃ Z4, Z4 = Z3.setCell ⟨bo, 3, none⟩ (.slice A4 (m + 1) c4) := ⟨_, rfl⟩
              have HO3 := Aside0.mk (HO7.out.below HZ3a.out)
              have HO4 : Aside0 (GBox Z4 bo #[.slice NA n1 nc, .slice EA n2 ec, .slice An n3 cn, .slice A4 (m + 1) c4]) := ⟨by rw [hZ4]; exact GBox.put HO3.out 3 _⟩
              have hk4 : ∀ k, k ≠ bo → Z4.heap[k]? = Z3.heap[k]? := fun k h => by rw [hZ4]; exact heap_setCell_other _ ⟨bo, 3, none⟩ _ _ h
              have HR4 : Aside0 (GBox Z4 br #[.slice NA n1 nc, .slice EA n2 ec, .slice VA n3 vc, .slice (some pv) n4 uc]) := ⟨(hk4 br (by have := HBL.out; omega)).trans (HR7.out.below HZ3a.out)⟩
              have HZ4 : Aside0 (GBox Z4 bz #[.slice none 0 0, .slice none 0 0, .slice none 0 0, .slice none 0 0]) := ⟨(hk4 bz (by have := HBL.out; omega)).trans (HZ7.out.below HZ3a.out)⟩
              have HX4 : Aside0 (Below w.heap.size w Z4) := ⟨by rw [hZ4]; exact below_set (below_then HB7W.out HZ3a.out) (p := ⟨bo, 3, none⟩) (by have := HBL.out; show w.heap.size ≤ bo; omega) _⟩
              have HW4 : Aside0 (Z4.ownsRow w.heap.size 31 5 (.slice A4 (m + 1) c4) (m + 1) ((l2.take a ++ [(⟨xid, xlb, xf, xt, xA, xqs, xc⟩ : ED)] ++ l2.drop a).flatMap cellsED)) := ⟨by rw [hZ4]; exact own_set_box (own_lower HT3.out HB7W.out.size) HO3.out (by decide)⟩
              have HWN4 : Aside0 (Z4.ownsRow w.heap.size 29 3 (.slice An n3 cn) n3 (ln.flatMap cellsND)) := ⟨by rw [hZ4]; exact own_set_box (own_below HWN.out (below_then HB7.out HZ3a.out)) HO3.out (by decide)⟩
              rw [← hZ4]
              clear hT3 hb3 hg3 hb73 hfz hcl hZ4 hk4 hcount hoz hs1 hs2
              go_wp2
              go_roundg (GJ - 1)
              case measure => have := HJ.out; have := HGJ.out; omega
              case rel => exact ⟨j + 1, by have := HJ.out; omega, by have := HJ.out; omega, by first | rfl | go_num, m + 1, _, ll ++ [(⟨xid, xlb, xf, xt, xA, xqs, xc⟩ : ED)], A4, c4, ⟨by have := HL.out.1; simp; omega, (put_in_E l2 _ a).trans ((HL.out.2.1.cons _).trans (List.perm_append_comm (l₁ := [_]) (l₂ := ll))), by rw [HTK.out]; exact HL.out.2.2.1.append (List.Sublist.refl _), fun e => by rw [HTK.out, HL.out.2.2.2 e]⟩, HR4, HZ4, HO4, HW4, HWN4, HX4⟩
            · have hjpi : ¬ (j : Int) < (np : Int) := by omega
              have hjpi2 : (np : Int) ≤ (j : Int) := by omega
              obtain ⟨a, hadef⟩ : ∃ a : Nat, a = 0 := ⟨_, rfl⟩
              have ha : a ≤ m := by omega
              have HAL : Aside0 (∀ y ∈ l2, goodED w y) := ⟨fun y hy => ReadsG.all_E HG.out.es y (List.mem_of_mem_take (HL.out.2.2.1.subset (HL.out.2.1.subset hy)))⟩
              go_upto_region 18 with (fail)
              obtain ⟨W7, hW7⟩ : ∃ W7, W7 = wr := ⟨_, rfl⟩
              have HB7 : Aside0 (Below wr.heap.size wr W7) := ⟨by rw [hW7]; exact Below.refl _ _⟩
              have hz0 : (0 : Int) = (a : Int) := by omega
              rw [← hW7]
              simp only [hz0]
              clear hW7 hz0 hadef
              have HB7W := Aside0.mk (below_then HX.out HB7.out)
              have HR7 := Aside0.mk (HR.out.below HB7.out)
              have HZ7 := Aside0.mk (HZ.out.below HB7.out)
              have HO7 := Aside0.mk (HO.out.below HB7.out)
              have HW7 := Aside0.mk (own_below HW.out HB7.out)
              obtain ⟨hc1, hc9, hA0, hs1, A2, c2, hs2, hA2, hrd2⟩ := slice_own_E HW.out ha
              have hln := HL.out.1
              have hown7 : W7.ownsRow w.heap.size 31 5 (.slice A m c) l2.length (l2.flatMap cellsED) := by rw [hln]; exact HW7.out
              obtain ⟨Ar, cr, hvr, hr7⟩ := readsE_own hown7 (by rw [hln]; have := hN; omega) (fun y hy => (HAL.out y hy).below HB7W.out)
              rw [← (Value.slice.inj hvr).1] at hr7
              clear hvr hown7
              have HR7R := Aside0.mk hr7
              have HRD2 := Aside0.mk hrd2
              have HA2 := Aside0.mk hA2
              have HA0 := Aside0.mk hA0
              have hba := below_more (Below.refl W7.heap.size W7) (.cells #[] 31)
              have HBA := Aside0.mk hba
              have hob : (W7.alloc (.cells #[] 31)).cell? ⟨bo, 3, none⟩ = some (.slice A m c) := (HO7.out.below hba).cells 3
              have hta : a = (l2.take a).length := by rw [List.length_take, hln]; omega
              have HTA := Aside0.mk hta
              have hoe := own_empty_E W7 W7.heap.size (Nat.le_refl _)
              have HOE := Aside0.mk hoe
              clear hrd2 hA2 hA0 hln hr7 hba hta hoe hrc hoc
              go_upto_region 19 with (at_builtin; go_loud (refine app_all_EL rfl (.tmp 95) (.tmp 99) rfl W7.heap.size _ rfl HOE.out A (l2.take a) a c HTA.out rfl HA0.out ((HR7R.out.below HBA.out).take a) (by have := hN; omega) HBA.out.size ?_); intro v1 Z1 hT1 hb1; obtain ⟨A1, c1, hv1⟩ := own_shape hT1; subst hv1)
              have HZ1a : Aside0 (Below W7.heap.size W7 Z1) := ⟨HBA.out.trans hb1⟩
              have HT1 := Aside0.mk hT1
              have hrz := (HR7.out.below HZ1a.out).cells
              have hhx := HHX.out Z1 (below_then HB7.out HZ1a.out)
              obtain ⟨_, _, d0, d1, d2, d3, d4⟩ := hhx
              simp only at d0 d1 d2 d3 d4
              clear hT1 hb1 hob
              have HBB := Aside0.mk (below_more (Below.refl Z1.heap.size Z1) (.cells #[.int .i64 xid, .string xlb, .int .i64 xf, .int .i64 xt, .slice xA xqs.length xc] 31))
              have HT1b := Aside0.mk (HT1.out.alloc (.cells #[.int .i64 xid, .string xlb, .int .i64 xf, .int .i64 xt, .slice xA xqs.length xc] 31))
              go_upto_region 20 with (at_builtin; go_loud (refine app_one_EL rfl (.tmp 101) (.tmp 107) rfl W7.heap.size _ a _ rfl HT1b.out Z1.heap.size (⟨xid, xlb, xf, xt, xA, xqs, xc⟩ : ED) rfl (heap_alloc_new Z1 _) (by have := hN; omega) (Nat.le_trans HZ1a.out.size HBB.out.size) ?_); intro v2 Z2 hT2 hb2 hg2; obtain ⟨A3, c3, hv2⟩ := own_shape hT2; subst hv2)
              have HZ2a : Aside0 (Below W7.heap.size W7 Z2) := ⟨(HZ1a.out.trans (HBB.out.mono HZ1a.out.size)).trans hb2⟩
              have HT2 : Aside0 (Z2.ownsRow W7.heap.size 31 5 (.slice A3 (a + 1) c3) (a + 1) ((l2.take a ++ [(⟨xid, xlb, xf, xt, xA, xqs, xc⟩ : ED)]).flatMap cellsED)) := ⟨by rw [List.flatMap_append]; simpa using hT2⟩
              have hoz := (HO7.out.below HZ2a.out).cells
              clear hT2 hb2 hg2 hrz d0 d1 d2 d3 d4
              have HDL : Aside0 (m - a = (l2.drop a).length) := ⟨by rw [List.length_drop, HL.out.1]⟩
              go_upto_region 13 with (at_builtin; go_loud (refine app_list_E rfl (.tmp 109) (.tmp 113) rfl W7.heap.size _ (a + 1) (l2.take a ++ [(⟨xid, xlb, xf, xt, xA, xqs, xc⟩ : ED)]) rfl HT2.out A2 (l2.drop a) (m - a) c2 HDL.out rfl HA2.out (HRD2.out Z2 l2 HL.out.1 (HR7R.out.below HZ2a.out)) (by have := hN; omega) HZ2a.out.size ?_); intro v3 Z3 hT3 hb3 hg3; obtain ⟨A4, c4, hv3⟩ := own_shape hT3; subst hv3; have hb73 := HZ2a.out.trans hb3; have hfz := (HO7.out.below hb73).free; have hcl := (HO7.out.below hb73).cells)
              have HZ3a : Aside0 (Below W7.heap.size W7 Z3) := ⟨HZ2a.out.trans hb3⟩
              have hcount : a + 1 + (m - a) = m + 1 := by omega
              rw [hcount] at hT3 ⊢
              have HT3 := Aside0.mk hT3
              obtain ⟨Z4, hZ4⟩ : ∃ Z4, Z4 = Z3.setCell ⟨bo, 3, none⟩ (.slice A4 (m + 1) c4) := ⟨_, rfl⟩
              have HO3 := Aside0.mk (HO7.out.below HZ3a.out)
              have HO4 : Aside0 (GBox Z4 bo #[.slice NA n1 nc, .slice EA n2 ec, .slice An n3 cn, .slice A4 (m + 1) c4]) := ⟨by rw [hZ4]; exact GBox.put HO3.out 3 _⟩
              have hk4 : ∀ k, k ≠ bo → Z4.heap[k]? = Z3.heap[k]? := fun k h => by rw [hZ4]; exact heap_setCell_other _ ⟨bo, 3, none⟩ _ _ h
              have HR4 : Aside0 (GBox Z4 br #[.slice NA n1 nc, .slice EA n2 ec, .slice VA n3 vc, .slice (some pv) n4 uc]) := ⟨(hk4 br (by have := HBL.out; omega)).trans (HR7.out.below HZ3a.out)⟩
              have HZ4 : Aside0 (GBox Z4 bz #[.slice none 0 0, .slice none 0 0, .slice none 0 0, .slice none 0 0]) := ⟨(hk4 bz (by have := HBL.out; omega)).trans (HZ7.out.below HZ3a.out)⟩
              have HX4 : Aside0 (Below w.heap.size w Z4) := ⟨by rw [hZ4]; exact below_set (below_then HB7W.out HZ3a.out) (p := ⟨bo, 3, none⟩) (by have := HBL.out; show w.heap.size ≤ bo; omega) _⟩
              have HW4 : Aside0 (Z4.ownsRow w.heap.size 31 5 (.slice A4 (m + 1) c4) (m + 1) ((l2.take a ++ [(⟨xid, xlb, xf, xt, xA, xqs, xc⟩ : ED)] ++ l2.drop a).flatMap cellsED)) := ⟨by rw [hZ4]; exact own_set_box (own_lower HT3.out HB7W.out.size) HO3.out (by decide)⟩
              have HWN4 : Aside0 (Z4.ownsRow w.heap.size 29 3 (.slice An n3 cn) n3 (ln.flatMap cellsND)) := ⟨by rw [hZ4]; exact own_set_box (own_below HWN.out (below_then HB7.out HZ3a.out)) HO3.out (by decide)⟩
              rw [← hZ4]
              clear hT3 hb3 hg3 hb73 hfz hcl hZ4 hk4 hcount hoz hs1 hs2
              go_wp2
              go_roundg (GJ - 1)
              case measure => have := HJ.out; have := HGJ.out; omega
              case rel => exact ⟨j + 1, by have := HJ.out; omega, by have := HJ.out; omega, by first | rfl | go_num, m + 1, _, ll ++ [(⟨xid, xlb, xf, xt, xA, xqs, xc⟩ : ED)], A4, c4, ⟨by have := HL.out.1; simp; omega, (put_in_E l2 _ a).trans ((HL.out.2.1.cons _).trans (List.perm_append_comm (l₁ := [_]) (l₂ := ll))), by rw [HTK.out]; exact HL.out.2.2.1.append (List.Sublist.refl _), fun e => by rw [HTK.out, HL.out.2.2.2 e]⟩, HR4, HZ4, HO4, HW4, HWN4, HX4⟩
        · have hjn : j = n4 := by omega
          subst j
          have hzf := HZ.out.free
          have hzc := HZ.out.cells
          have HXB : Aside0 (w.heap.size ≤ bz) := ⟨by have := HBL.out; omega⟩
          go_wp2
          have hbwz := below_set (below_set (below_set (below_set HX.out (p := ⟨bz, 0, none⟩) HXB.out (.slice NA n1 nc)) (p := ⟨bz, 1, none⟩) HXB.out (.slice EA n2 ec)) (p := ⟨bz, 2, none⟩) HXB.out (.slice An n3 cn)) (p := ⟨bz, 3, none⟩) HXB.out (.slice A m c)
          refine bodyPost_ret (results_raw1 rfl rfl ((((HZ.out.put 0 _).put 1 _).put 2 _).put 3 _) rfl) rfl ?_
          have hl3 : ln.length = n3 := HLN.out.1
          have hl4 : l2.length = m := HL.out.1
          refine ⟨hbwz, ⟨NA, nts, nc, EA, ets, ec, An, ln, cn, A, l2, c⟩, ?_, ?_, rfl, rfl, ?_, ll, ?_, HL.out.2.1, ?_⟩
          · simp only [GD.val]
            rw [hl3, hl4, ← HN.out.1, ← HN.out.2.1]
            rfl
          · have own3 := own_set_box (i := 3) (u := .slice A m c) (own_set_box (i := 2) (u := .slice An n3 cn) (own_set_box (i := 1) (u := .slice EA n2 ec) (own_set_box (i := 0) (u := .slice NA n1 nc) HWN.out HZ.out (by decide)) (HZ.out.put 0 _) (by decide)) ((HZ.out.put 0 _).put 1 _) (by decide)) (((HZ.out.put 0 _).put 1 _).put 2 _) (by decide)
            have own4 := own_set_box (i := 3) (u := .slice A m c) (own_set_box (i := 2) (u := .slice An n3 cn) (own_set_box (i := 1) (u := .slice EA n2 ec) (own_set_box (i := 0) (u := .slice NA n1 nc) HW.out HZ.out (by decide)) (HZ.out.put 0 _) (by decide)) ((HZ.out.put 0 _).put 1 _) (by decide)) (((HZ.out.put 0 _).put 1 _).put 2 _) (by decide)
            have hmn : m ≤ n4 := hmj
            obtain ⟨wz, hwz⟩ : ∃ wz, wz = ((((wr.setCell ⟨bz, 0, none⟩ (.slice NA n1 nc)).setCell ⟨bz, 1, none⟩ (.slice EA n2 ec)).setCell ⟨bz, 2, none⟩ (.slice An n3 cn)).setCell ⟨bz, 3, none⟩ (.slice A m c)) := ⟨_, rfl⟩
            rw [← hwz] at hbwz own3 own4 ⊢
            clear hwz
            rw [← hl3] at own3
            rw [← hl4] at own4
            obtain ⟨A3', c3', hv3, hr3⟩ := readsN_own own3 (by rw [hl3]; have := hN; omega) (fun y hy => (ReadsG.all_N HG.out.ns y (List.mem_of_mem_take (HLN.out.2.subset hy))).below hbwz)
            obtain ⟨A4', c4', hv4, hr4⟩ := readsE_own own4 (by rw [hl4]; have := hN; omega) (fun y hy => (ReadsG.all_E HG.out.es y (List.mem_of_mem_take (HL.out.2.2.1.subset (HL.out.2.1.subset hy)))).below hbwz)
            rw [← (Value.slice.inj hv3).1] at hr3
            rw [← (Value.slice.inj hv4).1] at hr4
            exact ⟨HG.out.nts.below hbwz, HG.out.ets.below hbwz, hr3, hr4⟩
          · have h := HLN.out.2
            rw [HN.out.2.2.1, List.take_length] at h
            exact h
          · have h := HL.out.2.2.1
            rw [HN.out.2.2.2.1, List.take_length] at h
            exact h
          · intro e
            have h := HL.out.2.2.2 e
            rw [HN.out.2.2.2.1, List.take_length] at h
            exact h
end Go.Proofs.Ytffifhinhemkdaa
