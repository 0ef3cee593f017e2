/- At of anything. -/
import Derived.Test.YtbdbcbpcekpcoaaDoorCvRep
set_option linter.unusedVariables false
set_option linter.unusedSimpArgs false
namespace Go.Proofs.YtbdbcbpcekpcoaaDoor
open Go.RowKit Go.Maps

theorem ba_nil {s : ByteArray} (h : s.size = 0) : s = ⟨#[]⟩ := by
  obtain ⟨a⟩ := s
  congr 1
  exact Array.eq_empty_of_size_eq_zero h
theorem li_nil {p : List Int} (h : p.length = 0) : p = [] := List.length_eq_zero_iff.1 h
theorem readsI_nil (w : World) : ReadsI w none [] := ⟨by simp, fun h => absurd h (by simp)⟩
set_option maxHeartbeats 1600000 in
theorem at_any (k : Int) (hk : 1 ≤ k ∧ k ≤ 6) (F : Nat → Prop) (b : Nat) (S : VS) (vs : List V5) (i : Nat) (w : World) (hv : VecIs w F b S) (hR : Rep k S vs) (hwf : WF S) (hf : ∀ v ∈ vs, fitsV k v = true) (hi : i < vs.length) (hN : vs.length ≤ 100000000000) :
    Calls Tryd.prog 21 #[.pointer (some ⟨b, 0, none⟩), .int .i64 (i : Int)] w fun e w' => ∃ u : V5, e = .returned u.val ∧ Eq5 u (vs.getD i V5.zero) ∧ ReadsI w' u.A u.p ∧ (∀ a, u.A = some a → w.heap.size ≤ a.block) ∧ Below w.heap.size w w' := by
  have hmem : vs.getD i V5.zero ∈ vs := by rw [List.getD_eq_getElem?_getD, List.getElem?_eq_getElem hi]; exact List.getElem_mem _
  have hfit := hf _ hmem
  have hnl : S.nl.getD i false = ((vs.getD i V5.zero).k == 0) := by rw [hR.nulls]; simp [List.getD, hi]
  have hlen : S.nl.length = vs.length := by rw [hR.nulls, List.length_map]
  have hN9 : S.nl.length ≤ 1000000000000 := by omega
  have hi' : i < S.nl.length := by omega
  have hkS := hR.kind
  have hdl := hwf.dict
  have hpx := path_part vs i hi
  have hbl : k = 1 → S.bl.getD i false = (vs.getD i V5.zero).b := fun e => by rw [hR.bools e]; simp [List.getD, hi]
  have hnn : (k = 2 ∨ k = 4 ∨ k = 5) → S.il.getD i 0 = (vs.getD i V5.zero).n := fun e => by rw [hR.ints e]; simp [List.getD, hi]
  have htx : k = 3 → (vs.getD i V5.zero).k = 3 → ∃ q, S.il.getD i 0 = ((q : Nat) : Int) ∧ q < S.dl.length ∧ S.dl.getD q ByteArray.empty = (vs.getD i V5.zero).s := fun e => (hR.texts e).2 i hi
  have hpt := hR.paths
  generalize vs.getD i V5.zero = v at *
  obtain ⟨vk, vn, vb, vss, vA, vp, vc⟩ := v
  unfold fitsV at hfit
  simp only [Bool.and_eq_true, Bool.or_eq_true, beq_iff_eq] at hfit hnl hbl hnn htx hpx
  obtain ⟨hr, hkv⟩ := hfit
  by_cases h0 : vk = 0
  · subst h0
    have hb : S.nl.getD i false = true := by rw [hnl]; rfl
    refine (at_null F b S i w hv hi' hb hN9).mono ?_
    rintro e w' ⟨he, hB⟩
    simp only [rightB, if_true, Bool.and_eq_true, Bool.not_eq_true', beq_iff_eq, decide_eq_true_eq] at hr
    obtain ⟨⟨⟨r1, r2⟩, r3⟩, r4⟩ := hr
    exact ⟨V5.zero, he, ⟨rfl, r2.symm, r1.symm, (ba_nil r3).symm, (li_nil r4).symm⟩, readsI_nil _, (fun a e => by cases e), hB⟩
  · have hvk : vk = k := by omega
    subst hvk
    have hb : S.nl.getD i false = false := by rw [hnl, beq_eq_false_iff_ne]; exact h0
    have hcase : vk = 1 ∨ (vk = 2 ∨ vk = 4 ∨ vk = 5) ∨ vk = 3 ∨ vk = 6 := by omega
    rcases hcase with rfl | hnum | rfl | rfl
    · refine (at_bool F b S i w hv hi' hb hN9 hkS (hwf.bools hkS)).mono ?_
      rintro e w' ⟨he, hB⟩
      rw [rightB, if_neg (by decide), if_pos rfl] at hr
      simp only [Bool.and_eq_true, Bool.not_eq_true', beq_iff_eq, decide_eq_true_eq] at hr
      exact ⟨⟨1, 0, S.bl.getD i false, ⟨#[]⟩, none, [], 0⟩, he, ⟨rfl, hr.1.1.symm, hbl rfl, (ba_nil hr.1.2).symm, (li_nil hr.2).symm⟩, readsI_nil _, (fun a e => by cases e), hB⟩
    · refine (at_int F b S i w hv hi' hb hN9 (by rw [hkS]; exact hnum) (hwf.ints (by rw [hkS]; omega))).mono ?_
      rintro e w' ⟨he, hB⟩
      rw [hkS] at he
      have hv3 : vb = false ∧ vss.size = 0 ∧ vp.length = 0 := by
        rcases hnum with rfl | rfl | rfl
        · rw [rightB, if_neg (by decide), if_neg (by decide), if_pos rfl] at hr
          simp only [Bool.and_eq_true, Bool.not_eq_true', decide_eq_true_eq] at hr
          exact ⟨hr.1.1, hr.1.2, hr.2⟩
        · rw [rightB, if_neg (by decide), if_neg (by decide), if_neg (by decide), if_neg (by decide), if_pos (by decide)] at hr
          simp only [Bool.and_eq_true, Bool.not_eq_true', decide_eq_true_eq] at hr
          exact ⟨hr.1.1.1, hr.1.1.2, hr.1.2⟩
        · rw [rightB, if_neg (by decide), if_neg (by decide), if_neg (by decide), if_neg (by decide), if_pos (by decide)] at hr
          simp only [Bool.and_eq_true, Bool.not_eq_true', decide_eq_true_eq] at hr
          exact ⟨hr.1.1.1, hr.1.1.2, hr.1.2⟩
      exact ⟨⟨vk, S.il.getD i 0, false, ⟨#[]⟩, none, [], 0⟩, he, ⟨rfl, hnn hnum, hv3.1.symm, (ba_nil hv3.2.1).symm, (li_nil hv3.2.2).symm⟩, readsI_nil _, (fun a e => by cases e), hB⟩
    · obtain ⟨q, h1, h2, h3⟩ := htx rfl rfl
      refine (at_text F b S i w hv hi' hb hN9 hkS (hwf.ints (by rw [hkS]; omega)) q h1 h2 (by omega)).mono ?_
      rintro e w' ⟨he, hB⟩
      rw [rightB, if_neg (by decide), if_neg (by decide), if_neg (by decide), if_pos rfl] at hr
      simp only [Bool.and_eq_true, Bool.not_eq_true', beq_iff_eq, decide_eq_true_eq] at hr
      exact ⟨⟨3, 0, false, S.dl.getD q ByteArray.empty, none, [], 0⟩, he, ⟨rfl, hr.1.1.2.symm, hr.1.1.1.symm, h3, (li_nil hr.1.2).symm⟩, readsI_nil _, (fun a e => by cases e), hB⟩
    · obtain ⟨p1, p2, p3⟩ := hpt rfl
      have hto := p3 i hi
      rw [rightB, if_neg (by decide), if_neg (by decide), if_neg (by decide), if_neg (by decide), if_neg (by decide), if_pos rfl] at hr
      simp only [Bool.and_eq_true, Bool.not_eq_true', beq_iff_eq, decide_eq_true_eq] at hr
      obtain ⟨⟨⟨⟨⟨r1, r2⟩, r3⟩, r4⟩, r5⟩, r6⟩ := hr
      obtain ⟨x1, x2, x3⟩ := hpx
      have hhl := hwf.heap
      rw [← p1] at x1 x3
      have hil := hwf.ints (by rw [hkS]; omega)
      rcases Nat.eq_zero_or_pos i with rfl | hpos
      · have hz : (hpL (vs.take 0)).length = 0 := by simp [hpL]
        rw [hz] at x1 x2
        refine (at_path_0 F b S 0 w hv hi' hb hN9 hkS hil 0 _ ⟨rfl, rfl⟩ hto (by omega) x3 (by omega)).mono ?_
        rintro e w' ⟨A, c, he, hrd, hbk, hB⟩
        rw [x1] at he hrd
        exact ⟨⟨6, 0, false, ⟨#[]⟩, A, vp, c⟩, he, ⟨rfl, r2.symm, r1.symm, (ba_nil r3).symm, rfl⟩, hrd, hbk, hB⟩
      · have hfr := p3 (i - 1) (by omega)
        rw [Nat.sub_add_cancel hpos] at hfr
        refine (at_path_n F b S i w hv hi' hb hN9 hkS hil _ _ ⟨hpos, hfr⟩ hto (by omega) x3 (by omega)).mono ?_
        rintro e w' ⟨A, c, he, hrd, hbk, hB⟩
        rw [x1] at he hrd
        exact ⟨⟨6, 0, false, ⟨#[]⟩, A, vp, c⟩, he, ⟨rfl, r2.symm, r1.symm, (ba_nil r3).symm, rfl⟩, hrd, hbk, hB⟩
end Go.Proofs.YtbdbcbpcekpcoaaDoor
