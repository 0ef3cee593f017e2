/- colvec.Of of anything: a column, or the error of the first value that does not fit. -/
import Derived.Test.YtbdbcbpcekpcoaaDoorCvAppA
set_option linter.unusedVariables false
set_option linter.unusedSimpArgs false
namespace Go.Proofs.YtbdbcbpcekpcoaaDoor
open Go.RowKit Go.Maps

/-- The first value that does not fit. -/
theorem first_bad (k : Int) : ∀ (vs : List V5), ¬ (∀ v ∈ vs, fitsV k v = true) → ∃ q, q < vs.length ∧ fitsV k (vs.getD q V5.zero) = false ∧ ∀ v ∈ vs.take q, fitsV k v = true
  | [], h => absurd (fun v hv => by cases hv) h
  | v :: r, h => by
    cases hv : fitsV k v with
    | false => exact ⟨0, by simp, hv, fun u hu => by simp at hu⟩
    | true =>
      obtain ⟨q, h1, h2, h3⟩ := first_bad k r (fun hr => h (fun u hu => by
        rcases List.mem_cons.1 hu with rfl | hu
        · exact hv
        · exact hr u hu))
      refine ⟨q + 1, by simp; omega, h2, fun u hu => ?_⟩
      rw [List.take_succ_cons] at hu
      rcases List.mem_cons.1 hu with rfl | hu
      · exact hv
      · exact h3 u hu
set_option maxRecDepth 100000 in
set_option maxHeartbeats 6400000 in
theorem of_err (k : Int) (A : Option Addr) (vs : List V5) (c : Nat) (w : World) (hk : 1 ≤ k ∧ k ≤ 6) (hr : ReadsV w A vs) (hN : vs.length ≤ room k) (q : Nat) (hq : q < vs.length) (hqf : fitsV k (vs.getD q V5.zero) = false) (hf : ∀ v ∈ vs.take q, fitsV k v = true) (hA : ∀ v ∈ vs, AppOk k v) :
    Calls Tryd.prog 9 #[.int .i64 k, .slice A vs.length c] w fun e w' => e = .returned (.tuple #[.pointer none, .int .i64 31]) ∧ Below w.heap.size w w' := by
  obtain ⟨m, hm⟩ : ∃ m, m = vs.length := ⟨_, rfl⟩
  rw [← hm] at hN hq ⊢
  have hn := new_any k w hk
  have HM := Aside0.mk hm
  have HR := Aside0.mk hr
  have HF := Aside0.mk hf
  have HQ := Aside0.mk hqf
  have HA := Aside0.mk hA
  have HKK := Aside0.mk hk
  have hRM := room_le k
  have hN9 : (m : Int) ≤ 8796093022207 := by omega
  have HNN : Aside0 (m ≤ room k) := ⟨hN⟩
  clear hRM hN
  clear hr hm hf hA hk hqf
  go_enter Tryd.func9, Tryd.ntmps9
  go_wp2_with (go_at_call 7; go_loud (refine hn.mono ?_))
  first
    | (intro e W1 he hV1 hb1; subst he)
    | rintro e W1 ⟨rfl, hV1, hb1⟩
  clear hn
  go_wp2
  go_loopg [16] (m + 1) (fun gg s16 wr => ∃ j : Nat, j ≤ q ∧ m < gg + j ∧ s16 = .int .i64 j ∧ VecIs wr (fun i => w.heap.size ≤ i) (w.heap.size + 1) (ofL k (vs.take j)) ∧ Below w.heap.size w wr)
  case atStart => exact ⟨0, by omega, by omega, rfl, hV1, hb1⟩
  case round =>
    obtain ⟨j, hj, hg, rfl, hV, HB⟩ := hrel
    clear hV1 hb1
    · have hlt : j < m := by omega
      have hlti : (j : Int) < (m : Int) := by omega
      have hj0 : (0 : Int) ≤ (j : Int) := by omega
      have hjm := HM.out
      have hjl : j < vs.length := by omega
      obtain ⟨ad, rfl, hh⟩ := HR.out.row j hjl
      have hmem : vs.getD j V5.zero ∈ vs := by rw [List.getD_eq_getElem?_getD, List.getElem?_eq_getElem hjl]; exact List.getElem_mem _
      have hp := HR.out.path _ hmem
      have happ := HA.out _ hmem
      have hsn := ofL_snoc k vs j hjl
      have hkk := ofL_k k (vs.take j)
      have hwf : WF (ofL k (vs.take j)) := wf_ofL k HKK.out _ (fun v hv => HF.out v ((List.take_subset_take_left vs hj) hv))
      have hnl : (ofL k (vs.take j)).nl.length ≤ room k := by rw [ofL_nl, List.length_map, List.length_take]; have := HNN.out; omega
      by_cases hjq : j < q
      · have hfit : fitsV k (vs.getD j V5.zero) = true := HF.out _ (by rw [List.getD_eq_getElem?_getD, List.getElem?_eq_getElem hjl]; exact List.mem_take_iff_getElem.2 ⟨j, by omega, rfl⟩)
        generalize vs.getD j V5.zero = v at hh hp hfit happ hsn
        have hst : stepV (ofL k (vs.take j)) v = ofL k (vs.take (j + 1)) := by rw [stepV, hkk, if_pos hfit, hsn]
        have her : errV k v = 0 := if_pos hfit
        have HC := happ
        obtain ⟨vk, vn, vb, vss, vA, vp, vc⟩ := v
        obtain ⟨hb, hsp, c0, c1, c2, c3, c4⟩ := hh
        simp only at hp c0 c1 c2 c3 c4
        rw [← HB.cell hb] at c0
        rw [← HB.cell (p := ⟨(ad.add (j * 5)).block, (ad.add (j * 5)).off + 1, none⟩) hb] at c1
        rw [← HB.cell (p := ⟨(ad.add (j * 5)).block, (ad.add (j * 5)).off + 2, none⟩) hb] at c2
        rw [← HB.cell (p := ⟨(ad.add (j * 5)).block, (ad.add (j * 5)).off + 3, none⟩) hb] at c3
        rw [← HB.cell (p := ⟨(ad.add (j * 5)).block, (ad.add (j * 5)).off + 4, none⟩) hb] at c4
        have hbl : (ad.add (j * 5)).block < wr.heap.size := by have := HB.size; omega
        have hwm : Below w.heap.size w (wr.alloc (.cells #[.int .i64 vk, .bool vb, .int .i64 vn, .string vss, .slice vA vp.length vc] 39)) := below_more HB _
        have hcall := HC (fun i => w.heap.size ≤ i) (w.heap.size + 1) (ofL k (vs.take j)) (wr.alloc (.cells #[.int .i64 vk, .bool vb, .int .i64 vn, .string vss, .slice vA vp.length vc] 39)) (vecIs_at hV (fun i hi _ => heap_alloc_old _ _ hi)) hkk hwf hnl (hp.below hwm)
        rw [hst, her] at hcall
        have hsz : w.heap.size ≤ wr.heap.size := HB.size
        have HCALL := Aside0.mk hcall
        have HWM := Aside0.mk hwm
        clear hp hfit happ hsn hkk hwf hnl hst her HC hsp hwm hjm hjl hmem hV hcall
        go_wp2_with (go_at_call 12; go_loud (refine HCALL.out.mono ?_))
        first
          | (intro e W2 he hV2 hk2; subst he)
          | rintro e W2 ⟨rfl, hV2, hk2⟩
        go_wp2
        go_roundg (gk - 1)
        case measure => omega
        case rel => exact ⟨j + 1, by omega, by omega, by go_num, vecIs_mono hV2 (fun i hi => hi.elim (fun h => h) (fun h => Nat.le_trans HWM.out.size h)), HWM.out.trans (hk2.below (fun i hi => hi) (HWM.out.size))⟩
      · obtain rfl : j = q := by omega
        have hfit := HQ.out
        generalize vs.getD j V5.zero = v at hh hp hfit happ hsn
        have her : errV k v = 31 := by rw [errV, hfit]; rfl
        have HC := happ
        obtain ⟨vk, vn, vb, vss, vA, vp, vc⟩ := v
        obtain ⟨hb, hsp, c0, c1, c2, c3, c4⟩ := hh
        simp only at hp c0 c1 c2 c3 c4
        rw [← HB.cell hb] at c0
        rw [← HB.cell (p := ⟨(ad.add (j * 5)).block, (ad.add (j * 5)).off + 1, none⟩) hb] at c1
        rw [← HB.cell (p := ⟨(ad.add (j * 5)).block, (ad.add (j * 5)).off + 2, none⟩) hb] at c2
        rw [← HB.cell (p := ⟨(ad.add (j * 5)).block, (ad.add (j * 5)).off + 3, none⟩) hb] at c3
        rw [← HB.cell (p := ⟨(ad.add (j * 5)).block, (ad.add (j * 5)).off + 4, none⟩) hb] at c4
        have hbl : (ad.add (j * 5)).block < wr.heap.size := by have := HB.size; omega
        have hwm : Below w.heap.size w (wr.alloc (.cells #[.int .i64 vk, .bool vb, .int .i64 vn, .string vss, .slice vA vp.length vc] 39)) := below_more HB _
        have hcall := HC (fun i => w.heap.size ≤ i) (w.heap.size + 1) (ofL k (vs.take j)) (wr.alloc (.cells #[.int .i64 vk, .bool vb, .int .i64 vn, .string vss, .slice vA vp.length vc] 39)) (vecIs_at hV (fun i hi _ => heap_alloc_old _ _ hi)) hkk hwf hnl (hp.below hwm)
        rw [her] at hcall
        have hsz : w.heap.size ≤ wr.heap.size := HB.size
        have HCALL := Aside0.mk hcall
        have HWM := Aside0.mk hwm
        clear hp hfit happ hsn hkk hwf hnl her HC hsp hwm hjm hjl hmem hV hcall
        go_wp2_with (go_at_call 12; go_loud (refine HCALL.out.mono ?_))
        first
          | (intro e W2 he hV2 hk2; subst he)
          | rintro e W2 ⟨rfl, hV2, hk2⟩
        go_wp2
        go_ret2
        exact ⟨rfl, HWM.out.trans (hk2.below (fun i hi => hi) (HWM.out.size))⟩
/-- colvec.Of of anything. -/
theorem of_any (k : Int) (A : Option Addr) (vs : List V5) (c : Nat) (w : World) (hk : 1 ≤ k ∧ k ≤ 6) (hr : ReadsV w A vs) (hN : vs.length ≤ room k) :
    Calls Tryd.prog 9 #[.int .i64 k, .slice A vs.length c] w fun e w' => (((∀ v ∈ vs, fitsV k v = true) ∧ e = .returned (.tuple #[.pointer (some ⟨w.heap.size + 1, 0, none⟩), .int .i64 0]) ∧ VecIs w' (fun j => w.heap.size ≤ j) (w.heap.size + 1) (ofL k vs)) ∨ ((¬ ∀ v ∈ vs, fitsV k v = true) ∧ e = .returned (.tuple #[.pointer none, .int .i64 31]))) ∧ Below w.heap.size w w' := by
  by_cases hf : ∀ v ∈ vs, fitsV k v = true
  · refine (of_ok k A vs c w hk hr hN hf (fun v _ => appOk_any k hk v)).mono ?_
    rintro e w' ⟨he, hV, hb⟩
    exact ⟨.inl ⟨hf, he, hV⟩, hb⟩
  · obtain ⟨q, h1, h2, h3⟩ := first_bad k vs hf
    refine (of_err k A vs c w hk hr hN q h1 h2 h3 (fun v _ => appOk_any k hk v)).mono ?_
    rintro e w' ⟨he, hb⟩
    exact ⟨.inr ⟨hf, he⟩, hb⟩
end Go.Proofs.YtbdbcbpcekpcoaaDoor
