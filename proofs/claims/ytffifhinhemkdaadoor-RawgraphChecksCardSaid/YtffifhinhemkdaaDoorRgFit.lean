/- fits of any properties. -/
import Derived.Test.YtffifhinhemkdaaDoorValC
import Derived.Test.YtffifhinhemkdaaDoorRgQ
set_option linter.unusedVariables false
set_option linter.unusedSimpArgs false
namespace Go.Proofs.YtffifhinhemkdaaDoor
open Go.RowKit Go.Maps

def QBox (W : World) (b : Nat) (a : Array Value) : Prop := W.heap[b]? = some (.cells a 96)
theorem QBox.below {W W' : World} {b : Nat} {a : Array Value} (h : QBox W b a) (hb : Below W.heap.size W W') : QBox W' b a := (hb.block b (Array.getElem?_eq_some_iff.1 h).1).trans h
theorem QBox.cells {W : World} {b : Nat} {a : Array Value} (h : QBox W b a) (i : Nat) : W.cell? ⟨b, i, none⟩ = a[i]? := by
  unfold World.cell?
  rw [h]
  rfl
theorem SeenIs.more {W : World} {b : Nat} {l : List (List UInt8)} {t : List UInt8} (h : W.ownsMap Tryd.prog 9 (plainElem Tryd.prog 4) b (l.length + 1) ((setS l).put (.string t) (.lit (.bool true)))) : SeenIs W b (l ++ [t]) := by
  unfold SeenIs
  rw [setS_snoc, List.length_append]
  exact h
theorem IdsIs.more {W : World} {b : Nat} {l : List Int} {t : Int} (h : W.ownsMap Tryd.prog 2 (plainElem Tryd.prog 4) b (l.length + 1) ((setI l).put (.int .i64 t) (.lit (.bool true)))) : IdsIs W b (l ++ [t]) := by
  unfold IdsIs
  rw [setI_snoc, List.length_append]
  exact h
theorem take_len {α : Type} (l : List α) (j m : Nat) (h : j ≤ m) (hm : m = l.length) : (l.take j).length = j := by rw [List.length_take]; omega
set_option maxRecDepth 100000 in
set_option maxHeartbeats 6400000 in
theorem fits_any (ks : List PD) (qs : List QD) (A : Option Addr) (bk c : Nat) (w : World) (hk : KindsIs w bk ks) (hr : ReadsQ w A qs) :
    Calls Tryd.prog 35 #[.map (some bk), .slice A qs.length c] w fun e w' => e = .returned (.bool (fitsB ks [] qs)) ∧ Below w.heap.size w w' := by
  have HR := Aside0.mk hr
  have HK := Aside0.mk hk
  obtain ⟨DR, hDR⟩ : ∃ DR, DR = fitsB ks [] qs := ⟨_, rfl⟩
  have HDR := Aside0.mk hDR
  rw [← hDR]
  obtain ⟨m, hm⟩ : ∃ m, m = qs.length := ⟨_, rfl⟩
  have HM := Aside0.mk hm
  rw [← hm]
  have hm9 : (m : Int) ≤ 9223372036854775807 := by have := hr.len; omega
  have hmm := @run_makeMap Tryd.prog
  clear hr hm hDR hk
  go_enter Tryd.func35, Tryd.ntmps35
  go_wp2
  obtain ⟨W1, hW1⟩ : ∃ W1, W1 = w.alloc (.map #[] 0) := ⟨_, rfl⟩
  obtain ⟨bm, hbm⟩ : ∃ bm, bm = w.heap.size := ⟨_, rfl⟩
  have HO1 : Aside0 (SeenIs W1 bm []) := ⟨by rw [hW1, hbm]; exact World.ownsMap_made w _ _ _⟩
  have HB1 : Aside0 (Below w.heap.size w W1) := ⟨by rw [hW1]; exact below_more (Below.refl _ _) _⟩
  have HBM : Aside0 (w.heap.size ≤ bm) := ⟨by omega⟩
  rw [← hW1, ← hbm]
  clear hW1 hbm hmm
  go_loopg [13] (m + 1) (fun gg s13 wx => ∃ (j : Nat), j ≤ m ∧ m < gg + j ∧ s13 = .int .i64 j ∧ Aside0 (fitsB ks ((qs.take j).map QD.key) (qs.drop j) = DR) ∧ Aside0 (SeenIs wx bm ((qs.take j).map QD.key)) ∧ Aside0 (Below w.heap.size w wx))
  case atStart => exact ⟨0, by omega, by omega, rfl, ⟨HDR.out.symm⟩, HO1, HB1⟩
  case round =>
    obtain ⟨j, hj, hg, rfl, HF, HS, HB⟩ := hrel
    have hj0 : (0 : Int) ≤ (j : Int) := by omega
    by_cases hjt : j < m
    · have hjti : (j : Int) < (m : Int) := by omega
      have hjl : j < qs.length := by have := HM.out; omega
      obtain ⟨pd, rfl, hh⟩ := (HR.out.below HB.out).row j hjl
      have hpn := (HR.out.txt _ (getD_in qs QD.zero j hjl)).1
      have hpk := HR.out.num _ (getD_in qs QD.zero j hjl)
      have hpp := (HR.out.path _ (getD_in qs QD.zero j hjl)).below HB.out
      have hpb := fitsB_at ks qs j hjl
      rw [HF.out] at hpb
      have htk := take_getD qs QD.zero j hjl
      obtain ⟨q, hq⟩ : ∃ q, q = qs.getD j QD.zero := ⟨_, rfl⟩
      rw [← hq] at hh hpn hpk hpb htk hpp
      have HPT := Aside0.mk (And.intro hpb htk)
      have HPP := Aside0.mk hpp
      obtain ⟨qm, ⟨qk, qb, qn, qt, qA, qp, qc⟩⟩ := q
      obtain ⟨hb, hsp, c0, c1, c2, c3, c4, c5⟩ := hh
      simp only at c0 c1 c2 c3 c4 c5 hpn hpk
      obtain ⟨hk0, hk1⟩ := hpk
      have HJ := Aside0.mk (And.intro hj hg)
      obtain ⟨GJ, hGJ⟩ : ∃ GJ, GJ = gk := ⟨_, rfl⟩
      have HGJ := Aside0.mk hGJ
      rw [← hGJ] at HJ
      clear hGJ hpb htk hq hj hg hjl HF hpp
      go_upto_region 5 with (fail)
      obtain ⟨W5, hW5⟩ : ∃ W5, W5 = wr.alloc (.cells #[.string qm, .int .i64 qk, .bool qb, .int .i64 qn, .string qt, .slice qA qp.length qc] 96) := ⟨_, rfl⟩
      obtain ⟨bp, hbp⟩ : ∃ bp, bp = wr.heap.size := ⟨_, rfl⟩
      have HT6 : Aside0 (QBox W5 bp #[.string qm, .int .i64 qk, .bool qb, .int .i64 qn, .string qt, .slice qA qp.length qc]) := ⟨by rw [hW5, hbp]; exact heap_alloc_new wr _⟩
      have HB5 : Aside0 (Below wr.heap.size wr W5) := ⟨by rw [hW5]; exact below_more (Below.refl _ _) _⟩
      rw [← hW5, ← hbp]
      clear hW5 hbp hb hsp c0 c1 c2 c3 c4 c5
      have HBE : Aside0 (Below w.heap.size w W5) := ⟨below_then HB.out HB5.out⟩
      have HS5 := Aside0.mk (HS.out.below HB5.out)
      have htc := HT6.out.cells
      have hlk := look_kind (HK.out.below HBE.out) qm hpn
      have hkey : keyOf Tryd.prog 9 (.string qm) = some (.string qm.data.toList) := WideMaps.keyOf_string_mk Tryd.underlying9 (by unfold maxLen; omega)
      have hls := look_set (t := 103) HS5.out law Tryd.underlying103 hkey (setS_at _ _)
      have HKEY := Aside0.mk hkey
      obtain ⟨kd, hkd⟩ : ∃ kd, kd = kindOf ks qm.data.toList := ⟨_, rfl⟩
      obtain ⟨iz, hiz⟩ : ∃ iz, iz = decide (qm.data.toList ∈ ks.map PD.key) := ⟨_, rfl⟩
      obtain ⟨sn, hsn⟩ : ∃ sn, sn = decide (qm.data.toList ∈ (qs.take j).map QD.key) := ⟨_, rfl⟩
      obtain ⟨rt, hrt⟩ : ∃ rt, rt = rightB qk qb qn qt qp := ⟨_, rfl⟩
      rw [← hkd, ← hiz] at hlk
      rw [← hsn] at hls
      have hri := right_any qk qn qb qt qA qp qc W5 (HPP.out.below HB5.out)
      rw [← hrt] at hri
      have HEB : Aside0 (okQ ks ((qs.take j).map QD.key) ⟨qm, ⟨qk, qb, qn, qt, qA, qp, qc⟩⟩ = (iz && (!sn && (rt && (decide (qk = 0) || decide (qk = kd)))))) := ⟨by rw [hkd, hiz, hsn, hrt]; rfl⟩
      have HBAD : Aside0 (okQ ks ((qs.take j).map QD.key) ⟨qm, ⟨qk, qb, qn, qt, qA, qp, qc⟩⟩ = false → false = DR) := ⟨fun e => by rw [HPT.out.1, e]; rfl⟩
      clear hkd hiz hsn hrt hkey
      cases iz with
      | false =>
        clear hls hri
        go_wp2
        go_ret
        rw [← HBAD.out (by rw [HEB.out]; rfl)]
        exact ⟨rfl, HBE.out⟩
      | true =>
        cases sn with
        | true =>
          clear hri
          go_wp2
          go_ret
          rw [← HBAD.out (by rw [HEB.out]; rfl)]
          exact ⟨rfl, HBE.out⟩
        | false =>
          cases rt with
          | false =>
            go_wp2_with (go_at_call 48; go_loud (refine hri.mono ?_))
            first
              | (intro e W6 he hb6; subst he)
              | rintro e W6 ⟨rfl, hb6⟩
            have HT7 := Aside0.mk (HT6.out.below hb6)
            have htc := HT7.out.cells
            go_wp2
            go_ret
            rw [← HBAD.out (by rw [HEB.out]; rfl)]
            exact ⟨rfl, below_then HBE.out hb6⟩
          | true =>
            by_cases hz : qk = 0
            · subst hz
              go_upto_region 8 with (go_at_call 48; go_loud (refine hri.mono ?_))
              first
                | (intro e W6 he hb6; subst he)
                | rintro e W6 ⟨rfl, hb6⟩
              have HT7 := Aside0.mk (HT6.out.below hb6)
              have htc := HT7.out.cells
              have HOK : Aside0 (fitsB ks ((qs.take (j + 1)).map QD.key) (qs.drop (j + 1)) = DR) := ⟨by rw [HPT.out.1, HEB.out]; simp⟩
              have hown6 : SeenIs W6 bm ((qs.take j).map QD.key) := HS5.out.below hb6
              unfold SeenIs at hown6
              obtain ⟨sl, hsl⟩ : ∃ sl, sl = (qs.take j).map QD.key := ⟨_, rfl⟩
              obtain ⟨ln, hln⟩ : ∃ ln, ln = sl.length := ⟨_, rfl⟩
              rw [← hsl, ← hln] at hown6
              have hlm : ln < maxLen := by
                rw [hln, hsl, List.length_map, take_len qs j m (by have := HJ.out.1; omega) HM.out]
                unfold maxLen
                omega
              have HSL := Aside0.mk (And.intro hsl hln)
              clear hsl hln
              have HB6 := Aside0.mk hb6
              clear hri hls hlk hb6
              go_wp2_with (at_mapUpdate; go_loud (refine wpList_mapUpdate_own _ rfl _ _ _ 103 rfl 9 4 law Tryd.underlying103 _ bm ln (setS sl) rfl hown6 hlm _ _ _ rfl rfl HKEY.out _ [] (plainElem_bool Tryd.underlying4 true) ?_))
              intro W7 hown7 hg7
              have HS7 : Aside0 (SeenIs W7 bm ((qs.take (j + 1)).map QD.key)) := ⟨by
                rw [HPT.out.2, List.map_append, ← HSL.out.1]
                exact SeenIs.more (by rw [← HSL.out.2]; exact hown7)⟩
              have HB7 : Aside0 (Below w.heap.size w W7) := ⟨grown_kept (below_then HBE.out HB6.out) hg7 HBM.out (by have h1 := HBE.out.size; have h2 := HB6.out.size; omega)⟩
              clear hown7 hg7 hown6 hlm htc
              go_wp2
              go_roundg (GJ - 1)
              case measure => have := HJ.out; have := HGJ.out; omega
              case rel => exact ⟨j + 1, by omega, by have := HJ.out; omega, by first | rfl | go_num, HOK, HS7, HB7⟩
            · have hz2 : ¬ 0 = qk := fun h => hz h.symm
              by_cases hd : qk = kd
              · subst hd
                go_upto_region 8 with (go_at_call 48; go_loud (refine hri.mono ?_))
                first
                  | (intro e W6 he hb6; subst he)
                  | rintro e W6 ⟨rfl, hb6⟩
                have HT7 := Aside0.mk (HT6.out.below hb6)
                have htc := HT7.out.cells
                have HOK : Aside0 (fitsB ks ((qs.take (j + 1)).map QD.key) (qs.drop (j + 1)) = DR) := ⟨by rw [HPT.out.1, HEB.out]; simp⟩
                have hown6 : SeenIs W6 bm ((qs.take j).map QD.key) := HS5.out.below hb6
                unfold SeenIs at hown6
                obtain ⟨sl, hsl⟩ : ∃ sl, sl = (qs.take j).map QD.key := ⟨_, rfl⟩
                obtain ⟨ln, hln⟩ : ∃ ln, ln = sl.length := ⟨_, rfl⟩
                rw [← hsl, ← hln] at hown6
                have hlm : ln < maxLen := by
                  rw [hln, hsl, List.length_map, take_len qs j m (by have := HJ.out.1; omega) HM.out]
                  unfold maxLen
                  omega
                have HSL := Aside0.mk (And.intro hsl hln)
                clear hsl hln
                have HB6 := Aside0.mk hb6
                clear hri hls hlk hb6
                go_wp2_with (at_mapUpdate; go_loud (refine wpList_mapUpdate_own _ rfl _ _ _ 103 rfl 9 4 law Tryd.underlying103 _ bm ln (setS sl) rfl hown6 hlm _ _ _ rfl rfl HKEY.out _ [] (plainElem_bool Tryd.underlying4 true) ?_))
                intro W7 hown7 hg7
                have HS7 : Aside0 (SeenIs W7 bm ((qs.take (j + 1)).map QD.key)) := ⟨by
                  rw [HPT.out.2, List.map_append, ← HSL.out.1]
                  exact SeenIs.more (by rw [← HSL.out.2]; exact hown7)⟩
                have HB7 : Aside0 (Below w.heap.size w W7) := ⟨grown_kept (below_then HBE.out HB6.out) hg7 HBM.out (by have h1 := HBE.out.size; have h2 := HB6.out.size; omega)⟩
                clear hown7 hg7 hown6 hlm htc
                go_wp2
                go_roundg (GJ - 1)
                case measure => have := HJ.out; have := HGJ.out; omega
                case rel => exact ⟨j + 1, by omega, by have := HJ.out; omega, by first | rfl | go_num, HOK, HS7, HB7⟩
              · have hd2 : ¬ kd = qk := fun h => hd h.symm
                go_wp2_with (go_at_call 48; go_loud (refine hri.mono ?_))
                first
                  | (intro e W6 he hb6; subst he)
                  | rintro e W6 ⟨rfl, hb6⟩
                have HT7 := Aside0.mk (HT6.out.below hb6)
                have htc := HT7.out.cells
                go_wp2
                go_ret
                rw [← HBAD.out (by rw [HEB.out, decide_eq_false hz, decide_eq_false hd]; rfl)]
                exact ⟨rfl, below_then HBE.out hb6⟩
    · obtain rfl : j = m := by omega
      have HOK : Aside0 (true = DR) := ⟨by
        have h := HF.out
        rw [HM.out, List.drop_length] at h
        exact h⟩
      go_wp2
      go_ret
      rw [← HOK.out]
      exact ⟨rfl, HB.out⟩
end Go.Proofs.YtffifhinhemkdaaDoor
