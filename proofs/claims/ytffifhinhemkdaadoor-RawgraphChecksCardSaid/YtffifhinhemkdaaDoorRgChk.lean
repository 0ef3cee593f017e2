/- Check of anything. -/
import Derived.Test.YtffifhinhemkdaaDoorRgC
set_option linter.unusedVariables false
set_option linter.unusedSimpArgs false
namespace Go.Proofs.YtffifhinhemkdaaDoor
open Go.RowKit Go.Maps

set_option maxRecDepth 100000 in
set_option maxHeartbeats 12800000 in
theorem check_any (nts ets : List TD) (ns : List ND) (es : List ED) (NA EA VA UA : Option Addr) (nc ec vc uc : Nat) (w : World) (h1 : ReadsT w NA nts) (h2 : ReadsT w EA ets) (h3 : ReadsN w VA ns) (h4 : ReadsE w UA es) (hN1 : nts.length ≤ 4000000000000) (hN2 : ets.length ≤ 4000000000000) :
    Calls Tryd.prog 8 #[.agg #[.slice NA nts.length nc, .slice EA ets.length ec, .slice VA ns.length vc, .slice UA es.length uc]] w fun e w' => e = .returned (.tuple #[.agg #[.int .i64 (checkR nts ets ns es).1, .int .i64 ((checkR nts ets ns es).2.1 : Int)], .int .i64 (checkR nts ets ns es).2.2]) ∧ Below w.heap.size w w' := by
  obtain ⟨CR, hCR⟩ : ∃ CR, CR = checkR nts ets ns es := ⟨_, rfl⟩
  rw [← hCR]
  have HCR := Aside0.mk hCR
  have HD1 : Aside0 (∀ W, Below w.heap.size w W → Calls Tryd.prog 16 #[.slice NA nts.length nc] W fun e w' => DeclA nts W e w') := ⟨fun W h => declared_any NA nts nc W (h1.below h) hN1⟩
  have HD2 : Aside0 (∀ W, Below w.heap.size w W → Calls Tryd.prog 16 #[.slice EA ets.length ec] W fun e w' => DeclA ets W e w') := ⟨fun W h => declared_any EA ets ec W (h2.below h) hN2⟩
  have H3 := Aside0.mk h3
  have H4 := Aside0.mk h4
  obtain ⟨n1, hn1⟩ : ∃ n1, n1 = nts.length := ⟨_, rfl⟩
  obtain ⟨n2, hn2⟩ : ∃ n2, n2 = ets.length := ⟨_, rfl⟩
  obtain ⟨n3, hn3⟩ : ∃ n3, n3 = ns.length := ⟨_, rfl⟩
  obtain ⟨n4, hn4⟩ : ∃ n4, n4 = es.length := ⟨_, rfl⟩
  have h39 : (n3 : Int) ≤ 9223372036854775807 := by have := h3.len; omega
  have h49 : (n4 : Int) ≤ 9223372036854775807 := by have := h4.len; omega
  rw [← hn1] at HD1
  rw [← hn2] at HD2
  rw [← hn1, ← hn2, ← hn3, ← hn4]
  have HN3 := Aside0.mk hn3
  have HN4 := Aside0.mk hn4
  have hmm := @run_makeMap Tryd.prog
  clear h1 h2 h3 h4 hN1 hN2 hCR hn1 hn2 hn3 hn4
  obtain ⟨R, hR⟩ : ∃ R : Array Value, R = #[.slice NA n1 nc, .slice EA n2 ec, .slice VA n3 vc, .slice UA n4 uc] := ⟨_, rfl⟩
  have HRR := Aside0.mk hR
  go_enter Tryd.func8, Tryd.ntmps8
  go_upto_region 2 with (fail)
  obtain ⟨Wa, hWa⟩ : ∃ Wa, Wa = w.alloc (.cells #[.slice NA n1 nc, .slice EA n2 ec, .slice VA n3 vc, .slice UA n4 uc] 28) := ⟨_, rfl⟩
  obtain ⟨Wb, hWb⟩ : ∃ Wb, Wb = Wa.alloc (.cells #[.int .i64 0, .int .i64 0] 31) := ⟨_, rfl⟩
  obtain ⟨Wc, hWc⟩ : ∃ Wc, Wc = Wb.alloc (.map #[] 0) := ⟨_, rfl⟩
  obtain ⟨Wd, hWd⟩ : ∃ Wd, Wd = Wc.alloc (.map #[] 0) := ⟨_, rfl⟩
  obtain ⟨We, hWe⟩ : ∃ We, We = Wd.alloc (.cells #[.map none, .map none, .map (some (w.heap.size + 1 + 1)), .map (some (w.heap.size + 1 + 1 + 1))] 47) := ⟨_, rfl⟩
  have sa : Wa.heap.size = w.heap.size + 1 := by rw [hWa]; simp
  have sb : Wb.heap.size = w.heap.size + 1 + 1 := by rw [hWb]; simp; omega
  have sc : Wc.heap.size = w.heap.size + 1 + 1 + 1 := by rw [hWc]; simp; omega
  have sd : Wd.heap.size = w.heap.size + 1 + 1 + 1 + 1 := by rw [hWd]; simp; omega
  have se : We.heap.size = w.heap.size + 1 + 1 + 1 + 1 + 1 := by rw [hWe]; simp; omega
  obtain ⟨br, hbr⟩ : ∃ br, br = w.heap.size := ⟨_, rfl⟩
  obtain ⟨bp, hbp⟩ : ∃ bp, bp = w.heap.size + 1 := ⟨_, rfl⟩
  obtain ⟨bc, hbc⟩ : ∃ bc, bc = w.heap.size + 1 + 1 + 1 + 1 := ⟨_, rfl⟩
  obtain ⟨m1, hm1⟩ : ∃ m1, m1 = w.heap.size + 1 + 1 := ⟨_, rfl⟩
  obtain ⟨m2, hm2⟩ : ∃ m2, m2 = w.heap.size + 1 + 1 + 1 := ⟨_, rfl⟩
  have HE : Aside0 (ChkI w br bp bc m1 m2 R (.map none) (.map none) We) := ⟨by
    refine ⟨by omega, ?_, by omega, ?_, ?_, ?_⟩
    · rw [hWe, hWd, hWc, hWb, hWa]
      exact below_more (below_more (below_more (below_more (below_more (Below.refl _ _) _) _) _) _) _
    · unfold GBox
      rw [hbr, hWe, heap_alloc_old _ _ (by omega), hWd, heap_alloc_old _ _ (by omega), hWc, heap_alloc_old _ _ (by omega), hWb, heap_alloc_old _ _ (by omega), hWa, hR]
      exact heap_alloc_new w _
    · unfold PBox
      rw [hbp, hWe, heap_alloc_old _ _ (by omega), hWd, heap_alloc_old _ _ (by omega), hWc, heap_alloc_old _ _ (by omega), hWb, ← sa]
      exact heap_alloc_new Wa _
    · unfold CBox
      rw [hbc, hWe, ← sd, hm1, hm2]
      exact heap_alloc_new Wd _⟩
  have HI1 : Aside0 (IdsIs We m1 []) := ⟨by
    have h : IdsIs Wc m1 [] := by rw [hm1, hWc, ← sb]; exact World.ownsMap_made Wb _ _ _
    exact ownsMap_at h (by rw [hWe, heap_alloc_old _ _ (by omega), hWd, heap_alloc_old _ _ (by omega)])⟩
  have HI2 : Aside0 (IdsIs We m2 []) := ⟨by
    have h : IdsIs Wd m2 [] := by rw [hm2, hWd, ← sc]; exact World.ownsMap_made Wc _ _ _
    exact ownsMap_at h (by rw [hWe, heap_alloc_old _ _ (by omega)])⟩
  rw [← hWa, ← hWb, ← hWc, ← hWd, ← hWe, ← hbc, ← hm2, ← hm1, ← hbp, ← hbr]
  clear hWa hWb hWc hWd hWe sa sb sc sd se hbr hbp hbc hm1 hm2 hmm
  have hd := HD1.out We HE.out.below
  have hrc := HE.out.raw.cells
  rw [hR] at hrc
  cases hD : declR [] 0 nts with
  | some p =>
    obtain ⟨i, er⟩ := p
    have HER : Aside0 (CR = (1, i, er)) := ⟨by rw [HCR.out, checkR, hD]⟩
    have her : ¬ er = 0 := declR_err nts [] 0 i er hD
    simp only [DeclA, hD] at hd
    clear hD
    go_wp2_with (go_at_call 16; go_loud (refine hd.mono ?_))
    first
      | (intro e W3 he hb3; subst he)
      | rintro e W3 ⟨rfl, hb3⟩
    have HX := Aside0.mk (HE.out.below_ hb3)
    have hec := HX.out.box.cells
    have hef := HX.out.box.free
    clear hd hb3 hrc
    go_upto_region 6 with (fail)
    obtain ⟨Wz, hWz⟩ : ∃ Wz, Wz = W3.setCell ⟨bc, 0, none⟩ (.map none) := ⟨_, rfl⟩
    rw [← hWz]
    have HZ : Aside0 (ChkI w br bp bc m1 m2 R (.map none) (.map none) Wz) := ⟨by rw [hWz]; exact HX.out.set0⟩
    have hpc := HZ.out.place.cells
    have hpf := HZ.out.place.free
    have HBP : Aside0 (w.heap.size ≤ bp) := ⟨by have := HZ.out.ne; omega⟩
    clear hWz hec hef
    go_wp2
    refine bodyPost_ret (results_place rfl rfl rfl ((HZ.out.place.put 0 _).put 1 _) rfl) rfl ?_
    rw [HER.out]
    exact ⟨rfl, below_set (below_set HZ.out.below (p := ⟨bp, 0, none⟩) HBP.out _) (p := ⟨bp, 1, none⟩) HBP.out _⟩
  | none =>
    have HDN := Aside0.mk hD
    simp only [DeclA, hD] at hd
    clear hD
    go_wp2_with (go_at_call 16; go_loud (refine hd.mono ?_))
    rintro e W3 ⟨⟨b1, l1, rfl, hl1, ht1⟩, hb3⟩
    have HX := Aside0.mk (HE.out.below_ hb3)
    have HT1 : Aside0 (TypesIs W3 (w.heap.size + 5) b1 l1) := ⟨ht1.low HE.out.size⟩
    have HL1 := Aside0.mk hl1
    have HI13 := Aside0.mk (HI1.out.below hb3)
    have HI23 := Aside0.mk (HI2.out.below hb3)
    have hec := HX.out.box.cells
    have hef := HX.out.box.free
    clear hd hb3 hrc hl1 ht1 HI1 HI2
    go_upto_region 7 with (fail)
    obtain ⟨W4, hW4⟩ : ∃ W4, W4 = W3.setCell ⟨bc, 0, none⟩ (.map (some b1)) := ⟨_, rfl⟩
    rw [← hW4]
    have HC4 : Aside0 (ChkI w br bp bc m1 m2 R (.map (some b1)) (.map none) W4) := ⟨by rw [hW4]; exact HX.out.set0⟩
    have hne := HX.out.ne
    have HT4 : Aside0 (TypesIs W4 (w.heap.size + 5) b1 l1) := ⟨by rw [hW4]; exact HT1.out.at_ (fun k h1 h2 => heap_setCell_other _ _ _ _ (by show k ≠ bc; omega))⟩
    have HI14 : Aside0 (IdsIs W4 m1 []) := ⟨by rw [hW4]; exact ownsMap_at HI13.out (heap_setCell_other _ _ _ _ (by show m1 ≠ bc; omega))⟩
    have HI24 : Aside0 (IdsIs W4 m2 []) := ⟨by rw [hW4]; exact ownsMap_at HI23.out (heap_setCell_other _ _ _ _ (by show m2 ≠ bc; omega))⟩
    clear hW4 hec hef hne HT1 HI13 HI23 HX
    have hd := HD2.out W4 HC4.out.below
    have hrc := HC4.out.raw.cells
    rw [HRR.out] at hrc
    cases hD2 : declR [] 0 ets with
    | some p =>
      obtain ⟨i, er⟩ := p
      have HER : Aside0 (CR = (2, i, er)) := ⟨by rw [HCR.out, checkR, HDN.out, hD2]⟩
      have her : ¬ er = 0 := declR_err ets [] 0 i er hD2
      simp only [DeclA, hD2] at hd
      clear hD2
      go_wp2_with (go_at_call 16; go_loud (refine hd.mono ?_))
      first
        | (intro e W5 he hb5; subst he)
        | rintro e W5 ⟨rfl, hb5⟩
      have HX := Aside0.mk (HC4.out.below_ hb5)
      have hec := HX.out.box.cells
      have hef := HX.out.box.free
      clear hd hb5 hrc
      go_upto_region 9 with (fail)
      obtain ⟨Wz, hWz⟩ : ∃ Wz, Wz = W5.setCell ⟨bc, 1, none⟩ (.map none) := ⟨_, rfl⟩
      rw [← hWz]
      have HZ : Aside0 (ChkI w br bp bc m1 m2 R (.map (some b1)) (.map none) Wz) := ⟨by rw [hWz]; exact HX.out.set1⟩
      have hpc := HZ.out.place.cells
      have hpf := HZ.out.place.free
      have HBP : Aside0 (w.heap.size ≤ bp) := ⟨by have := HZ.out.ne; omega⟩
      clear hWz hec hef
      go_wp2
      refine bodyPost_ret (results_place rfl rfl rfl ((HZ.out.place.put 0 _).put 1 _) rfl) rfl ?_
      rw [HER.out]
      exact ⟨rfl, below_set (below_set HZ.out.below (p := ⟨bp, 0, none⟩) HBP.out _) (p := ⟨bp, 1, none⟩) HBP.out _⟩
    | none =>
      have HDN2 := Aside0.mk hD2
      simp only [DeclA, hD2] at hd
      clear hD2
      go_wp2_with (go_at_call 16; go_loud (refine hd.mono ?_))
      rintro e W5 ⟨⟨b2, l2, rfl, hl2, ht2⟩, hb5⟩
      have HX := Aside0.mk (HC4.out.below_ hb5)
      have HT1 : Aside0 (TypesIs W5 (w.heap.size + 5) b1 l1) := ⟨HT4.out.below hb5⟩
      have HT2 : Aside0 (TypesIs W5 (w.heap.size + 5) b2 l2) := ⟨ht2.low HC4.out.size⟩
      have HL2 := Aside0.mk hl2
      have HI13 := Aside0.mk (HI14.out.below hb5)
      have HI23 := Aside0.mk (HI24.out.below hb5)
      have hec := HX.out.box.cells
      have hef := HX.out.box.free
      clear hd hb5 hrc hl2 ht2 HI14 HI24 HT4
      go_upto_region 10 with (fail)
      obtain ⟨W6, hW6⟩ : ∃ W6, W6 = W5.setCell ⟨bc, 1, none⟩ (.map (some b2)) := ⟨_, rfl⟩
      rw [← hW6]
      have HC6 : Aside0 (ChkI w br bp bc m1 m2 R (.map (some b1)) (.map (some b2)) W6) := ⟨by rw [hW6]; exact HX.out.set1⟩
      have hne := HX.out.ne
      have HT16 : Aside0 (TypesIs W6 (w.heap.size + 5) b1 l1) := ⟨by rw [hW6]; exact HT1.out.at_ (fun k h1 h2 => heap_setCell_other _ _ _ _ (by show k ≠ bc; omega))⟩
      have HT26 : Aside0 (TypesIs W6 (w.heap.size + 5) b2 l2) := ⟨by rw [hW6]; exact HT2.out.at_ (fun k h1 h2 => heap_setCell_other _ _ _ _ (by show k ≠ bc; omega))⟩
      have HI16 : Aside0 (IdsIs W6 m1 []) := ⟨by rw [hW6]; exact ownsMap_at HI13.out (heap_setCell_other _ _ _ _ (by show m1 ≠ bc; omega))⟩
      have HI26 : Aside0 (IdsIs W6 m2 []) := ⟨by rw [hW6]; exact ownsMap_at HI23.out (heap_setCell_other _ _ _ _ (by show m2 ≠ bc; omega))⟩
      have HNE := Aside0.mk hne
      clear hW6 hec hef hne HT1 HT2 HI13 HI23 HX HC4
      have hrc := HC6.out.raw.cells
      rw [HRR.out] at hrc
      go_wp2
      clear hrc
      obtain ⟨NR, hNR⟩ : ∃ NR, NR = nodeR nts [] 0 ns := ⟨_, rfl⟩
      have HNR := Aside0.mk hNR
      clear hNR
      have HND1 : Aside0 (nts.map TD.key).Nodup := ⟨by simpa using declR_nodup nts [] 0 HDN.out (by simp)⟩
      have HND2 : Aside0 (ets.map TD.key).Nodup := ⟨by simpa using declR_nodup ets [] 0 HDN2.out (by simp)⟩
      go_loopg [45] (n3 + 1) (fun gg s45 wx => ∃ (j : Nat), j ≤ n3 ∧ n3 < gg + j ∧ s45 = .int .i64 j ∧ Aside0 (nodeR nts ((ns.take j).map ND.id) j (ns.drop j) = NR) ∧ Aside0 (IdsIs wx m1 ((ns.take j).map ND.id)) ∧ Aside0 (W6.grownBy wx (some m1)))
      case atStart => exact ⟨0, by omega, by omega, rfl, ⟨HNR.out.symm⟩, HI16, ⟨World.grownBy.refl _ _⟩⟩
      case round =>
        obtain ⟨j, hj, hgj, rfl, HF, HIX, HGX⟩ := hrel
        have hj0 : (0 : Int) ≤ (j : Int) := by omega
        have HCX := Aside0.mk (HC6.out.grown HGX.out (.inl rfl))
        by_cases hjt : j < n3
        · have hjti : (j : Int) < (n3 : Int) := by omega
          have hjl : j < ns.length := by have := HN3.out; omega
          obtain ⟨ad, rfl, hh⟩ := (H3.out.below HCX.out.below).row j hjl
          have htx := H3.out.txt _ (getD_in ns ND.zero j hjl)
          have hpp := (H3.out.props _ (getD_in ns ND.zero j hjl)).below HCX.out.below
          have hpb := nodeR_at nts ns j hjl
          rw [HF.out] at hpb
          have htk := take_getD ns ND.zero j hjl
          obtain ⟨x, hx⟩ : ∃ x, x = ns.getD j ND.zero := ⟨_, rfl⟩
          rw [← hx] at hh htx hpp hpb htk
          have HPT := Aside0.mk (And.intro hpb htk)
          have HPP := Aside0.mk hpp
          obtain ⟨xid, xlb, xA, xqs, xc⟩ := x
          obtain ⟨hb, hsp, c0, c1, c2⟩ := hh
          simp only at c0 c1 c2 htx
          have HJ := Aside0.mk (And.intro hj hgj)
          obtain ⟨GJ, hGJ⟩ : ∃ GJ, GJ = gk := ⟨_, rfl⟩
          have HGJ := Aside0.mk hGJ
          rw [← hGJ] at HJ
          clear hGJ hpb htk hx hj hgj hjl HF hpp
          go_upto_region 13 with (fail)
          obtain ⟨W7, hW7⟩ : ∃ W7, W7 = wr.alloc (.cells #[.int .i64 xid, .string xlb, .slice xA xqs.length xc] 52) := ⟨_, rfl⟩
          obtain ⟨bx, hbx⟩ : ∃ bx, bx = wr.heap.size := ⟨_, rfl⟩
          have HT7 : Aside0 (NBox W7 bx #[.int .i64 xid, .string xlb, .slice xA xqs.length xc]) := ⟨by rw [hW7, hbx]; exact heap_alloc_new wr _⟩
          have HB7 : Aside0 (Below wr.heap.size wr W7) := ⟨by rw [hW7]; exact below_more (Below.refl _ _) _⟩
          rw [← hW7, ← hbx]
          clear hW7 hbx hb hsp c0 c1 c2
          have HC7 := Aside0.mk (HCX.out.below_ HB7.out)
          have hec := HC7.out.box.cells
          have htc := HT7.out.cells
          have hre := record_any l1 nts ((ns.take j).map ND.id) xid xlb xqs true xA (w.heap.size + 5) b1 m1 xc W7 HL1.out HND1.out ((HT16.out.grown HGX.out (by have := HNE.out; omega)).below HB7.out) (HIX.out.below HB7.out) (by have := HNE.out; omega) (HPP.out.below HB7.out) htx (by rw [List.length_map, take_len ns j n3 HJ.out.1 HN3.out]; omega)
          obtain ⟨er, her⟩ : ∃ er, er = recErr nts ((ns.take j).map ND.id) xid xlb.data.toList xqs true := ⟨_, rfl⟩
          rw [← her] at hre
          obtain ⟨sid, hsid⟩ : ∃ sid, sid = (ns.take j).map ND.id := ⟨_, rfl⟩
          rw [← hsid] at hre
          have HSID := Aside0.mk hsid
          clear hsid
          by_cases h0 : er = 0
          · have HNX : Aside0 (nodeR nts ((ns.take (j + 1)).map ND.id) (j + 1) (ns.drop (j + 1)) = NR) := ⟨by
              have h := HPT.out.1.trans (if_pos (her.symm.trans h0))
              exact h.symm⟩
            clear her
            subst h0
            rw [if_pos rfl] at hre
            go_wp2_with (go_at_call 17; go_loud (refine hre.mono ?_))
            first
              | (intro e W8 he hi8 hg8; subst he)
              | rintro e W8 ⟨rfl, hi8, hg8⟩
            have HI8 : Aside0 (IdsIs W8 m1 ((ns.take (j + 1)).map ND.id)) := ⟨by rw [HPT.out.2, List.map_append, ← HSID.out]; exact hi8⟩
            have HG8 : Aside0 (W6.grownBy W8 (some m1)) := ⟨(HGX.out.trans (grown_below HB7.out)).trans hg8⟩
            clear hi8 hg8 hec htc hre
            go_wp2
            go_roundg (GJ - 1)
            case measure => have := HJ.out; have := HGJ.out; omega
            case rel => exact ⟨j + 1, by omega, by have := HJ.out; omega, by first | rfl | go_num, HNX, HI8, HG8⟩
          · have HER : Aside0 (CR = (3, j, er)) := ⟨by
              have h := HPT.out.1.trans (if_neg (fun e => h0 (her.trans e)))
              rw [HCR.out, checkR, HDN.out, HDN2.out, ← HNR.out, h, her]
              rfl⟩
            clear her
            rw [if_neg h0] at hre
            go_wp2_with (go_at_call 17; go_loud (refine hre.mono ?_))
            first
              | (intro e W8 he hi8 hg8; subst he)
              | rintro e W8 ⟨rfl, hi8, hg8⟩
            have HC8 := Aside0.mk (HC7.out.grown hg8 (.inl rfl))
            have hpc := HC8.out.place.cells
            have hpf := HC8.out.place.free
            have HBP : Aside0 (w.heap.size ≤ bp) := ⟨by have := HC8.out.ne; omega⟩
            clear hi8 hg8 hec htc hre
            go_wp2
            refine bodyPost_ret (results_place rfl rfl rfl ((HC8.out.place.put 0 _).put 1 _) rfl) rfl ?_
            rw [HER.out]
            exact ⟨rfl, below_set (below_set HC8.out.below (p := ⟨bp, 0, none⟩) HBP.out _) (p := ⟨bp, 1, none⟩) HBP.out _⟩
        · obtain rfl : j = n3 := by omega
          have HNN : Aside0 (nodeR nts [] 0 ns = none) := ⟨by
            have h := HF.out
            rw [HN3.out, List.drop_length] at h
            rw [← HNR.out, ← h]
            rfl⟩
          have HIN : Aside0 (IdsIs wr m1 (ns.map ND.id)) := ⟨by have h := HIX.out; rw [HN3.out, List.take_length] at h; exact h⟩
          have HI2X : Aside0 (IdsIs wr m2 []) := ⟨HI26.out.grown HGX.out (by have := HNE.out; omega)⟩
          have HT2X : Aside0 (TypesIs wr (w.heap.size + 5) b2 l2) := ⟨HT26.out.grown HGX.out (by have := HNE.out; omega)⟩
          obtain ⟨Wn, hWn⟩ : ∃ Wn, Wn = wr := ⟨_, rfl⟩
          rw [← hWn] at HCX HIN HI2X HT2X ⊢
          clear hWn HF HIX HGX hgj hj
          have hrc := HCX.out.raw.cells
          rw [HRR.out] at hrc
          obtain ⟨nids, hnids⟩ : ∃ nids, nids = ns.map ND.id := ⟨_, rfl⟩
          rw [← hnids] at HIN
          have HNI := Aside0.mk hnids
          obtain ⟨ER, hER⟩ : ∃ ER, ER = edgeR ets nids [] 0 es := ⟨_, rfl⟩
          have HERR := Aside0.mk hER
          clear hnids hER
          go_upto_region 17 with (fail)
          go_wp2
          clear hrc
          go_loopg [70] (n4 + 1) (fun gg s70 wx => ∃ (j : Nat), j ≤ n4 ∧ n4 < gg + j ∧ s70 = .int .i64 j ∧ Aside0 (edgeR ets nids ((es.take j).map ED.id) j (es.drop j) = ER) ∧ Aside0 (IdsIs wx m2 ((es.take j).map ED.id)) ∧ Aside0 (Wn.grownBy wx (some m2)))
          case atStart => exact ⟨0, by omega, by omega, rfl, ⟨HERR.out.symm⟩, HI2X, ⟨World.grownBy.refl _ _⟩⟩
          case round =>
            obtain ⟨j, hj, hgj, rfl, HF, HIX, HGX⟩ := hrel
            have hj0 : (0 : Int) ≤ (j : Int) := by omega
            have HCY := Aside0.mk (HCX.out.grown HGX.out (.inr rfl))
            by_cases hjt : j < n4
            · have hjti : (j : Int) < (n4 : Int) := by omega
              have hjl : j < es.length := by have := HN4.out; omega
              obtain ⟨ad, rfl, hh⟩ := (H4.out.below HCY.out.below).row j hjl
              have htx := H4.out.txt _ (getD_in es ED.zero j hjl)
              have hpp := (H4.out.props _ (getD_in es ED.zero j hjl)).below HCY.out.below
              have hnum := H4.out.num _ (getD_in es ED.zero j hjl)
              have hpb := edgeR_at ets nids es j hjl
              rw [HF.out] at hpb
              have htk := take_getD es ED.zero j hjl
              obtain ⟨x, hx⟩ : ∃ x, x = es.getD j ED.zero := ⟨_, rfl⟩
              rw [← hx] at hh htx hpp hpb htk hnum
              have HPT := Aside0.mk (And.intro hpb htk)
              have HPP := Aside0.mk hpp
              have HNUM := Aside0.mk hnum
              obtain ⟨xid, xlb, xf, xt, xA, xqs, xc⟩ := x
              obtain ⟨hb, hsp, c0, c1, c2, c3, c4⟩ := hh
              simp only at c0 c1 c2 c3 c4 htx
              have HJ := Aside0.mk (And.intro hj hgj)
              obtain ⟨GJ, hGJ⟩ : ∃ GJ, GJ = gk := ⟨_, rfl⟩
              have HGJ := Aside0.mk hGJ
              rw [← hGJ] at HJ
              clear hGJ hpb htk hx hj hgj hjl HF hpp hnum
              go_upto_region 20 with (fail)
              obtain ⟨W7, hW7⟩ : ∃ W7, W7 = wr.alloc (.cells #[.int .i64 xid, .string xlb, .int .i64 xf, .int .i64 xt, .slice xA xqs.length xc] 55) := ⟨_, rfl⟩
              obtain ⟨bx, hbx⟩ : ∃ bx, bx = wr.heap.size := ⟨_, rfl⟩
              have HT7 : Aside0 (EBox W7 bx #[.int .i64 xid, .string xlb, .int .i64 xf, .int .i64 xt, .slice xA xqs.length xc]) := ⟨by rw [hW7, hbx]; exact heap_alloc_new wr _⟩
              have HB7 : Aside0 (Below wr.heap.size wr W7) := ⟨by rw [hW7]; exact below_more (Below.refl _ _) _⟩
              rw [← hW7, ← hbx]
              clear hW7 hbx hb hsp c0 c1 c2 c3 c4
              have HC7 := Aside0.mk (HCY.out.below_ HB7.out)
              have hec := HC7.out.box.cells
              have htc := HT7.out.cells
              have hin7 : IdsIs W7 m1 nids := (HIN.out.grown HGX.out (by have := HNE.out; omega)).below HB7.out
              have hlf := look_set (t := 44) hin7 lawI Tryd.underlying44 (keyOf_int_mk Tryd.underlying2 HNUM.out.1) (setI_at _ _ _ rfl)
              have hlt := look_set (t := 44) hin7 lawI Tryd.underlying44 (keyOf_int_mk Tryd.underlying2 HNUM.out.2) (setI_at _ _ _ rfl)
              simp only at hlf hlt
              obtain ⟨fb, hfb⟩ : ∃ fb, fb = decide (xf ∈ nids) := ⟨_, rfl⟩
              obtain ⟨tb, htb⟩ : ∃ tb, tb = decide (xt ∈ nids) := ⟨_, rfl⟩
              rw [← hfb] at hlf
              rw [← htb] at hlt
              have hre := record_any l2 ets ((es.take j).map ED.id) xid xlb xqs (fb && tb) xA (w.heap.size + 5) b2 m2 xc W7 HL2.out HND2.out ((HT2X.out.grown HGX.out (by have := HNE.out; omega)).below HB7.out) (HIX.out.below HB7.out) (by have := HNE.out; omega) (HPP.out.below HB7.out) htx (by rw [List.length_map, take_len es j n4 HJ.out.1 HN4.out]; omega)
              obtain ⟨er, her⟩ : ∃ er, er = recErr ets ((es.take j).map ED.id) xid xlb.data.toList xqs (fb && tb) := ⟨_, rfl⟩
              have hends : endsB nids ⟨xid, xlb, xf, xt, xA, xqs, xc⟩ = (fb && tb) := by rw [hfb, htb]; rfl
              have her2 : recErr ets ((es.take j).map ED.id) xid xlb.data.toList xqs (endsB nids ⟨xid, xlb, xf, xt, xA, xqs, xc⟩) = er := by rw [hends, her]
              rw [← her] at hre
              obtain ⟨sid, hsid⟩ : ∃ sid, sid = (es.take j).map ED.id := ⟨_, rfl⟩
              rw [← hsid] at hre
              have HSID := Aside0.mk hsid
              clear hsid
              clear her hfb htb hends hin7
              by_cases h0 : er = 0
              · have HNX : Aside0 (edgeR ets nids ((es.take (j + 1)).map ED.id) (j + 1) (es.drop (j + 1)) = ER) := ⟨by
                  have h := HPT.out.1.trans (if_pos (her2.trans h0))
                  exact h.symm⟩
                clear her2
                subst h0
                rw [if_pos rfl] at hre
                cases fb with
                | false =>
                  rw [Bool.false_and] at hre
                  go_wp2_with (go_at_call 17; go_loud (refine hre.mono ?_))
                  first
                    | (intro e W8 he hi8 hg8; subst he)
                    | rintro e W8 ⟨rfl, hi8, hg8⟩
                  have HI8 : Aside0 (IdsIs W8 m2 ((es.take (j + 1)).map ED.id)) := ⟨by rw [HPT.out.2, List.map_append, ← HSID.out]; exact hi8⟩
                  have HG8 : Aside0 (Wn.grownBy W8 (some m2)) := ⟨(HGX.out.trans (grown_below HB7.out)).trans hg8⟩
                  clear hi8 hg8 hec htc hre
                  go_wp2
                  go_roundg (GJ - 1)
                  case measure => have := HJ.out; have := HGJ.out; omega
                  case rel => exact ⟨j + 1, by omega, by have := HJ.out; omega, by first | rfl | go_num, HNX, HI8, HG8⟩
                | true =>
                  rw [Bool.true_and] at hre
                  go_wp2_with (go_at_call 17; go_loud (refine hre.mono ?_))
                  first
                    | (intro e W8 he hi8 hg8; subst he)
                    | rintro e W8 ⟨rfl, hi8, hg8⟩
                  have HI8 : Aside0 (IdsIs W8 m2 ((es.take (j + 1)).map ED.id)) := ⟨by rw [HPT.out.2, List.map_append, ← HSID.out]; exact hi8⟩
                  have HG8 : Aside0 (Wn.grownBy W8 (some m2)) := ⟨(HGX.out.trans (grown_below HB7.out)).trans hg8⟩
                  clear hi8 hg8 hec htc hre
                  go_wp2
                  go_roundg (GJ - 1)
                  case measure => have := HJ.out; have := HGJ.out; omega
                  case rel => exact ⟨j + 1, by omega, by have := HJ.out; omega, by first | rfl | go_num, HNX, HI8, HG8⟩
              · have HER : Aside0 (CR = (4, j, er)) := ⟨by
                  have h := HPT.out.1.trans (if_neg (fun e => h0 (her2.symm.trans e)))
                  have h5 : edgeR ets (ns.map ND.id) [] 0 es = some (j, er) := by
                    rw [← HNI.out, ← HERR.out, h]
                    exact congrArg (fun z => some (j, z)) her2
                  rw [HCR.out, checkR, HDN.out, HDN2.out, HNN.out, h5]⟩
                clear her2
                rw [if_neg h0] at hre
                cases fb with
                | false =>
                  rw [Bool.false_and] at hre
                  go_wp2_with (go_at_call 17; go_loud (refine hre.mono ?_))
                  first
                    | (intro e W8 he hi8 hg8; subst he)
                    | rintro e W8 ⟨rfl, hi8, hg8⟩
                  have HC8 := Aside0.mk (HC7.out.grown hg8 (.inr rfl))
                  have hpc := HC8.out.place.cells
                  have hpf := HC8.out.place.free
                  have HBP : Aside0 (w.heap.size ≤ bp) := ⟨by have := HC8.out.ne; omega⟩
                  clear hi8 hg8 hec htc hre
                  go_wp2
                  refine bodyPost_ret (results_place rfl rfl rfl ((HC8.out.place.put 0 _).put 1 _) rfl) rfl ?_
                  rw [HER.out]
                  exact ⟨rfl, below_set (below_set HC8.out.below (p := ⟨bp, 0, none⟩) HBP.out _) (p := ⟨bp, 1, none⟩) HBP.out _⟩
                | true =>
                  rw [Bool.true_and] at hre
                  go_wp2_with (go_at_call 17; go_loud (refine hre.mono ?_))
                  first
                    | (intro e W8 he hi8 hg8; subst he)
                    | rintro e W8 ⟨rfl, hi8, hg8⟩
                  have HC8 := Aside0.mk (HC7.out.grown hg8 (.inr rfl))
                  have hpc := HC8.out.place.cells
                  have hpf := HC8.out.place.free
                  have HBP : Aside0 (w.heap.size ≤ bp) := ⟨by have := HC8.out.ne; omega⟩
                  clear hi8 hg8 hec htc hre
                  go_wp2
                  refine bodyPost_ret (results_place rfl rfl rfl ((HC8.out.place.put 0 _).put 1 _) rfl) rfl ?_
                  rw [HER.out]
                  exact ⟨rfl, below_set (below_set HC8.out.below (p := ⟨bp, 0, none⟩) HBP.out _) (p := ⟨bp, 1, none⟩) HBP.out _⟩
            · obtain rfl : j = n4 := by omega
              have HER : Aside0 (CR = (0, 0, 0)) := ⟨by
                have h := HF.out
                rw [HN4.out, List.drop_length] at h
                have h5 : edgeR ets (ns.map ND.id) [] 0 es = none := by
                  rw [← HNI.out, ← HERR.out, ← h]
                  rfl
                rw [HCR.out, checkR, HDN.out, HDN2.out, HNN.out, h5]⟩
              have hpc := HCY.out.place.cells
              have hpf := HCY.out.place.free
              have HBP : Aside0 (w.heap.size ≤ bp) := ⟨by have := HCY.out.ne; omega⟩
              clear HF HIX HGX hgj hj
              go_wp2
              refine bodyPost_ret (results_place rfl rfl rfl ((HCY.out.place.put 0 _).put 1 _) rfl) rfl ?_
              rw [HER.out]
              exact ⟨rfl, below_set (below_set HCY.out.below (p := ⟨bp, 0, none⟩) HBP.out _) (p := ⟨bp, 1, none⟩) HBP.out _⟩
end Go.Proofs.YtffifhinhemkdaaDoor
