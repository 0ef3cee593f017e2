/- The document's told. -/
import Derived.Test.YtffifhinhemkdaaDoorRkE
import Derived.Test.YtffifhinhemkdaaDoorRgTold
set_option linter.unusedVariables false
set_option linter.unusedSimpArgs false
namespace Go.Proofs.YtffifhinhemkdaaDoor
open Go.RowKit Go.Maps

theorem tbox_below {W W' : World} {b : Nat} {cs : Array Value} (h : TBox W b cs) (hb : Below W.heap.size W W') : TBox W' b cs := (hb.block b (Array.getElem?_eq_some_iff.1 h).1).trans h
theorem own_ne_tbox {W : World} {B n bd : Nat} {v : Value} {xs : List Value} {cs : Array Value} (h : W.ownsRow B 96 6 v n xs) (hd : TBox W bd cs) : v.ownBlock ≠ some bd := by
  intro e
  rcases h.2 with ⟨e1, _⟩ | ⟨g, cap, cur, e1, _, hh, _⟩
  · rw [e1] at e
    cases e
  · rw [e1] at e
    have e2 : g = bd := Option.some.inj e
    rw [e2, show W.heap[bd]? = _ from hd] at hh
    cases hh
set_option maxRecDepth 100000 in
set_option maxHeartbeats 12800000 in
theorem rtold_any (ts_ : ByteArray) (tA : Option Addr) (ps : List PD) (tcc : Nat) (qs : List QD) (QA : Option Addr) (qc : Nat) (w : World) (hpr : ReadsP w tA ps) (hq : ReadsQ w QA qs) (hb : (toldL ps qs).length < 1000000000000) :
    Calls Tryd.prog 30 #[.agg #[.string ts_, .slice tA ps.length tcc], .slice QA qs.length qc] w fun e w' => ∃ A2 c2, e = .returned (.slice A2 (toldL ps qs).length c2) ∧ w'.ownsRow w.heap.size 96 6 (.slice A2 (toldL ps qs).length c2) (toldL ps qs).length ((toldL ps qs).flatMap cellsQD) ∧ Below w.heap.size w w' := by
  obtain ⟨q, hq9⟩ : ∃ q, q = ps.length := ⟨_, rfl⟩
  obtain ⟨m, hm⟩ : ∃ m, m = qs.length := ⟨_, rfl⟩
  have hm9 : (m : Int) ≤ 9223372036854775807 := by have := hq.len; omega
  have hq99 : (q : Int) ≤ 9223372036854775807 := by have := hpr.len; omega
  have HN := Aside0.mk (And.intro hq9 hm)
  have HPR := Aside0.mk hpr
  have HQR := Aside0.mk hq
  have HB := Aside0.mk hb
  rw [← hq9, ← hm]
  clear hq hb hpr hq9 hm
  go_enter Tryd.func30, Tryd.ntmps30
  go_upto_region 1 with (fail)
  obtain ⟨W3, hW3⟩ : ∃ W3, W3 = w.alloc (.cells #[.string ts_, .slice tA q tcc] 41) := ⟨_, rfl⟩
  obtain ⟨bt, hbt⟩ : ∃ bt, bt = w.heap.size := ⟨_, rfl⟩
  have HT3 : Aside0 (TBox W3 bt #[.string ts_, .slice tA q tcc]) := ⟨by rw [hW3, hbt]; exact heap_alloc_new w _⟩
  have HB3 : Aside0 (Below w.heap.size w W3) := ⟨by rw [hW3]; exact below_more (Below.refl _ _) _⟩
  rw [← hW3, ← hbt]
  clear hW3 hbt
  go_wp2
  go_loopg [5, 6] (q + 1) (fun gg s5 s6 wx => ∃ (k : Nat), k ≤ q ∧ q < gg + k ∧ s6 = .int .i64 k ∧ ∃ A2 c2, s5 = .slice A2 (toldL (ps.take k) qs).length c2 ∧ Aside0 (wx.ownsRow w.heap.size 96 6 (.slice A2 (toldL (ps.take k) qs).length c2) (toldL (ps.take k) qs).length ((toldL (ps.take k) qs).flatMap cellsQD)) ∧ Aside0 (TBox wx bt #[.string ts_, .slice tA q tcc]) ∧ Aside0 (Below w.heap.size w wx))
  case atStart => exact ⟨0, by omega, by omega, rfl, none, 0, rfl, ⟨World.ownsRow_nil _ _ _ _⟩, HT3, HB3⟩
  case round =>
    obtain ⟨k, hk, hg, rfl, A2, c2, rfl, HO, HT, HBX⟩ := hrel
    have hk0 : (0 : Int) ≤ (k : Int) := by omega
    have htc := HT.out.cells
    by_cases hkt : k < q
    · have hkti : (k : Int) < (q : Int) := by omega
      have hkl : k < ps.length := by have := HN.out; omega
      obtain ⟨pd, hpd, hh⟩ := (HPR.out.below HBX.out).row k hkl
      subst hpd
      have HTK : Aside0 (toldL (ps.take (k + 1)) qs = toldL (ps.take k) qs ++ qs.filter (keepQ (ps.getD k PD.zero))) := ⟨by rw [take_getD ps PD.zero k hkl, toldL_snoc]⟩
      have HTL : Aside0 (∀ j, (toldL (ps.take k) qs ++ (qs.take j).filter (keepQ (ps.getD k PD.zero))).length < 1000000000000) := ⟨fun j => Nat.lt_of_le_of_lt (toldL_take_le ps qs k j hkl) HB.out⟩
      have HPX : Aside0 (∀ X, Below w.heap.size w X → HoldsP X (pd.add (k * 2)) (ps.getD k PD.zero)) := ⟨fun X h => by
        obtain ⟨pd2, e2, h2⟩ := (HPR.out.below h).row k hkl
        cases e2
        exact h2⟩
      obtain ⟨d, hd⟩ : ∃ d, d = ps.getD k PD.zero := ⟨_, rfl⟩
      rw [← hd] at HPX HTK HTL
      obtain ⟨pn, pk⟩ := d
      have HJ := Aside0.mk (And.intro hk (And.intro hg hkt))
      obtain ⟨GJ, hGJ⟩ : ∃ GJ, GJ = gk := ⟨_, rfl⟩
      have HGJ := Aside0.mk hGJ
      rw [← hGJ] at HJ
      obtain ⟨lk, hlk⟩ : ∃ lk, lk = (toldL (ps.take k) qs).length := ⟨_, rfl⟩
      obtain ⟨tk, htk⟩ : ∃ tk, tk = toldL (ps.take k) qs := ⟨_, rfl⟩
      rw [← hlk] at HO ⊢
      rw [← htk] at HO HTK HTL
      have HLK : Aside0 (lk = tk.length) := ⟨by rw [hlk, htk]⟩
      clear hlk htk hGJ hd hkl hk hg hh
      go_upto_region 5 with (fail)
      go_wp2
      clear htc
      go_loopg [5, 7] (m + 1) (fun gg s5 s7 wx => ∃ (j : Nat), j ≤ m ∧ m < gg + j ∧ s7 = .int .i64 j ∧ ∃ A3 c3, s5 = .slice A3 (tk ++ (qs.take j).filter (keepQ ⟨pn, pk⟩)).length c3 ∧ Aside0 (wx.ownsRow w.heap.size 96 6 (.slice A3 (tk ++ (qs.take j).filter (keepQ ⟨pn, pk⟩)).length c3) (tk ++ (qs.take j).filter (keepQ ⟨pn, pk⟩)).length ((tk ++ (qs.take j).filter (keepQ ⟨pn, pk⟩)).flatMap cellsQD)) ∧ Aside0 (TBox wx bt #[.string ts_, .slice (some pd) q tcc]) ∧ Aside0 (Below w.heap.size w wx))
      case atStart => exact ⟨0, by omega, by omega, rfl, A2, c2, by rw [HLK.out]; simp, ⟨by have h := HO.out; rw [HLK.out] at h; simpa using h⟩, HT, HBX⟩
      case round =>
        obtain ⟨j, hj, hg, rfl, A3, c3, rfl, HO, HT, HBX⟩ := hrel
        have hj0 : (0 : Int) ≤ (j : Int) := by omega
        by_cases hjt : j < m
        · have hjti : (j : Int) < (m : Int) := by omega
          have hjl : j < qs.length := by have := HN.out; omega
          obtain ⟨qd, hqd, hh⟩ := (HQR.out.below HBX.out).row j hjl
          subst hqd
          have htj := take_getD qs QD.zero j hjl
          have HTJ := Aside0.mk (HTL.out j)
          obtain ⟨x, hx⟩ : ∃ x, x = qs.getD j QD.zero := ⟨_, rfl⟩
          rw [← hx] at hh htj
          have HST : Aside0 (tk ++ (qs.take (j + 1)).filter (keepQ ⟨pn, pk⟩) = if keepQ ⟨pn, pk⟩ x = true then (tk ++ (qs.take j).filter (keepQ ⟨pn, pk⟩)) ++ [x] else tk ++ (qs.take j).filter (keepQ ⟨pn, pk⟩)) := ⟨by
            rw [htj, List.filter_append]
            cases h : keepQ ⟨pn, pk⟩ x with
            | true => simp [h]
            | false => simp [h]⟩
          obtain ⟨sj, hsj⟩ : ∃ sj, sj = tk ++ (qs.take j).filter (keepQ ⟨pn, pk⟩) := ⟨_, rfl⟩
          rw [← hsj] at HO HST HTJ ⊢
          obtain ⟨lj, hlj⟩ : ∃ lj, lj = sj.length := ⟨_, rfl⟩
          rw [← hlj] at HO HTJ ⊢
          have HLJ := Aside0.mk hlj
          obtain ⟨qm, ⟨qk, qb, qn, qt, qA, qp, qcc⟩⟩ := x
          have HQX : Aside0 (∀ X, Below wr.heap.size wr X → HoldsQ X (qd.add (j * 6)) ⟨qm, ⟨qk, qb, qn, qt, qA, qp, qcc⟩⟩) := ⟨fun X h => hh.below h⟩
          obtain ⟨hlt, hsp, c0, c1, c2, c3_, c4, c5⟩ := hh
          simp only at c0 c1 c2 c3_ c4 c5
          obtain ⟨_, _, p0, p1⟩ := HPX.out wr HBX.out
          simp only at p0 p1
          have htc := HT.out.cells
          have HJ2 := Aside0.mk (And.intro hj hg)
          obtain ⟨GI, hGI⟩ : ∃ GI, GI = gk := ⟨_, rfl⟩
          have HGI := Aside0.mk hGI
          rw [← hGI] at HJ2
          clear hGI hx htj hsj hlj hjl hj hg
          obtain ⟨e1, he1⟩ : ∃ e1, e1 = (qm.toList == pn.toList) := ⟨_, rfl⟩
          have HKE : Aside0 (keepQ ⟨pn, pk⟩ ⟨qm, ⟨qk, qb, qn, qt, qA, qp, qcc⟩⟩ = (e1 && !decide (qk = 0))) := ⟨by rw [he1, key_eq]; rfl⟩
          have he2 := he1.symm
          have hkk := HJ.out.2.2
          have hkki : (k : Int) < (q : Int) := by omega
          clear he1
          go_upto_region 8 with (fail)
          cases e1 with
          | false =>
            have HOK : Aside0 (tk ++ (qs.take (j + 1)).filter (keepQ ⟨pn, pk⟩) = sj) := ⟨by rw [HST.out, HKE.out]; rfl⟩
            go_quiet (fail)
            obtain ⟨W7, hW7⟩ : ∃ W7, W7 = wr.drewN nq := ⟨_, rfl⟩
            have HB7 : Aside0 (Below wr.heap.size wr W7) := ⟨by rw [hW7]; exact below_q _⟩
            rw [← hW7]
            clear hW7
            have HO7 := Aside0.mk (own_below HO.out HB7.out)
            have HT7 := Aside0.mk (tbox_below HT.out HB7.out)
            go_wp2
            go_roundg (GI - 1)
            case measure => have := HJ2.out; have := HGI.out; omega
            case rel => exact ⟨j + 1, by omega, by have := HJ2.out; omega, by first | rfl | go_num, A3, c3, by rw [HOK.out, ← HLJ.out], by rw [HOK.out, ← HLJ.out]; exact HO7, HT7, ⟨below_then HBX.out HB7.out⟩⟩
          | true =>
            by_cases hz : qk = 0
            · subst hz
              have HOK : Aside0 (tk ++ (qs.take (j + 1)).filter (keepQ ⟨pn, pk⟩) = sj) := ⟨by rw [HST.out, HKE.out]; rfl⟩
              go_quiet (fail)
              obtain ⟨W7, hW7⟩ : ∃ W7, W7 = wr.drewN nq := ⟨_, rfl⟩
              have HB7 : Aside0 (Below wr.heap.size wr W7) := ⟨by rw [hW7]; exact below_q _⟩
              rw [← hW7]
              clear hW7
              have HO7 := Aside0.mk (own_below HO.out HB7.out)
              have HT7 := Aside0.mk (tbox_below HT.out HB7.out)
              go_wp2
              go_roundg (GI - 1)
              case measure => have := HJ2.out; have := HGI.out; omega
              case rel => exact ⟨j + 1, by omega, by have := HJ2.out; omega, by first | rfl | go_num, A3, c3, by rw [HOK.out, ← HLJ.out], by rw [HOK.out, ← HLJ.out]; exact HO7, HT7, ⟨below_then HBX.out HB7.out⟩⟩
            · have hzb : (qk == 0) = false := by simp [hz]
              have HOK : Aside0 (tk ++ (qs.take (j + 1)).filter (keepQ ⟨pn, pk⟩) = sj ++ [⟨qm, ⟨qk, qb, qn, qt, qA, qp, qcc⟩⟩]) := ⟨by rw [HST.out, HKE.out, decide_eq_false hz]; rfl⟩
              go_quiet (fail)
              obtain ⟨W7, hW7⟩ : ∃ W7, W7 = wr.drewN nq := ⟨_, rfl⟩
              have HB7 : Aside0 (Below wr.heap.size wr W7) := ⟨by rw [hW7]; exact below_q _⟩
              rw [← hW7]
              clear hW7
              have HO7 := Aside0.mk (own_below HO.out HB7.out)
              have HT7 := Aside0.mk (tbox_below HT.out HB7.out)
              have HB7W := Aside0.mk (below_then HBX.out HB7.out)
              clear c0 c1 c2 c3_ c4 c5 hlt hsp p0 p1 htc
              obtain ⟨_, _, c0, c1, c2, c3_, c4, c5⟩ := HQX.out W7 HB7.out
              simp only at c0 c1 c2 c3_ c4 c5
              have hba := below_more (Below.refl W7.heap.size W7) (.cells #[.string qm, .int .i64 qk, .bool qb, .int .i64 qn, .string qt, .slice qA qp.length qcc] 96)
              have HO8 := Aside0.mk (HO7.out.alloc (.cells #[.string qm, .int .i64 qk, .bool qb, .int .i64 qn, .string qt, .slice qA qp.length qcc] 96))
              have HBA := Aside0.mk (And.intro hba (below_then HB7W.out hba))
              clear hba
              go_upto_region 7 with (at_builtin; go_loud (refine app_one_QL rfl (.tmp 42) (.tmp 47) rfl w.heap.size _ lj (sj.flatMap cellsQD) rfl HO8.out W7.heap.size ⟨qm, ⟨qk, qb, qn, qt, qA, qp, qcc⟩⟩ rfl (heap_alloc_new W7 _) (by have := HTJ.out; omega) HBA.out.2.size ?_); intro v9 Z hT9 hb9 hg9; obtain ⟨A9, c9, hv9⟩ := own_shape hT9; subst hv9)
              have HO9 : Aside0 (Z.ownsRow w.heap.size 96 6 (.slice A9 (tk ++ (qs.take (j + 1)).filter (keepQ ⟨pn, pk⟩)).length c9) (tk ++ (qs.take (j + 1)).filter (keepQ ⟨pn, pk⟩)).length ((tk ++ (qs.take (j + 1)).filter (keepQ ⟨pn, pk⟩)).flatMap cellsQD)) := ⟨by
                rw [HOK.out, List.length_append, ← HLJ.out]
                simpa using hT9⟩
              have HD9 : Aside0 (TBox Z bt #[.string ts_, .slice (some pd) q tcc]) := ⟨(hg9.block bt (Nat.lt_of_lt_of_le (Array.getElem?_eq_some_iff.1 HT7.out).1 HBA.out.1.size) (fun e => own_ne_tbox HO7.out HT7.out e.symm)).trans ((HBA.out.1.block bt (Array.getElem?_eq_some_iff.1 HT7.out).1).trans HT7.out)⟩
              have HB9 : Aside0 (Below w.heap.size w Z) := ⟨HBA.out.2.trans hb9⟩
              have HL9 : Aside0 ((tk ++ (qs.take (j + 1)).filter (keepQ ⟨pn, pk⟩)).length = lj + 1) := ⟨by rw [HOK.out, List.length_append, ← HLJ.out]; rfl⟩
              clear hT9 hb9 hg9 HBA HO8 c0 c1 c2 c3_ c4 c5
              go_wp2
              go_roundg (GI - 1)
              case measure => have := HJ2.out; have := HGI.out; omega
              case rel => exact ⟨j + 1, by omega, by have := HJ2.out; omega, by first | rfl | go_num, A9, c9, by rw [HL9.out], HO9, HD9, HB9⟩
        · obtain rfl : j = m := by omega
          have HOK : Aside0 (tk ++ (qs.take j).filter (keepQ ⟨pn, pk⟩) = toldL (ps.take (k + 1)) qs) := ⟨by rw [HTK.out, HN.out.2, List.take_length]⟩
          rw [HOK.out] at HO ⊢
          go_wp2
          go_roundg (GJ - 1)
          case measure => have := HJ.out; have := HGJ.out; omega
          case rel => exact ⟨k + 1, by have := HJ.out; omega, by have := HJ.out; omega, by first | rfl | go_num, A3, c3, rfl, HO, HT, HBX⟩
    · obtain rfl : k = q := by omega
      have hps : ps.take k = ps := by rw [HN.out.1, List.take_length]
      rw [hps] at HO ⊢
      have HPS := Aside0.mk hps
      clear hps
      go_wp2
      go_ret
      exact ⟨A2, c2, rfl, HO.out, HBX.out⟩
end Go.Proofs.YtffifhinhemkdaaDoor
