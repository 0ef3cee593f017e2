/- Gather: a column of the values at places. -/
import Derived.Test.YtbdbcbpcekpcoaaDoorCvSR
import Derived.Test.YtbdbcbpcekpcoaaDoorCvOfE
set_option linter.unusedVariables false
set_option linter.unusedSimpArgs false
namespace Go.Proofs.YtbdbcbpcekpcoaaDoor
open Go.RowKit Go.Maps

theorem ofL_snoc2 (k : Int) (us : List V5) (u : V5) : ofL k (us ++ [u]) = pushV (ofL k us) u := by rw [ofL, ofL, List.foldl_append]; rfl
theorem fits5 {k : Int} {u v : V5} (h : Eq5 u v) (hf : fitsV k v = true) : fitsV k u = true := by
  obtain ⟨h1, h2, h3, h4, h5⟩ := h
  unfold fitsV at hf ⊢
  rw [h1, h2, h3, h4, h5]
  exact hf
/-- What was gathered so far: the values at the first places. -/
def GatE (vs : List V5) (pl : List Int) (us : List V5) : Prop := ∀ i, i < us.length → Eq5 (us.getD i V5.zero) (vs.getD (pl.getD i 0).toNat V5.zero)
theorem gatE_snoc {vs : List V5} {pl : List Int} {us : List V5} (h : GatE vs pl us) {u : V5} (hu : Eq5 u (vs.getD (pl.getD us.length 0).toNat V5.zero)) : GatE vs pl (us ++ [u]) := fun i hi => by
  rw [List.length_append, List.length_cons, List.length_nil] at hi
  by_cases hlt : i < us.length
  · rw [getD_snoc_lt _ _ _ _ hlt]
    exact h i hlt
  · obtain rfl : i = us.length := by omega
    rw [getD_snoc_eq]
    exact hu
theorem gatE_row {vs : List V5} {pl : List Int} {us : List V5} (h : GatE vs pl us) (hl : us.length = pl.length) : EqR us (pl.map fun i => vs.getD i.toNat V5.zero) := by
  refine ⟨by rw [List.length_map, hl], fun i hi => ?_⟩
  rw [List.length_map] at hi
  have h1 := h i (by omega)
  have e : (pl.map fun i => vs.getD i.toNat V5.zero).getD i V5.zero = vs.getD (pl.getD i 0).toNat V5.zero := by
    rw [List.getD_eq_getElem?_getD, List.getElem?_map, List.getElem?_eq_getElem hi]
    simp [List.getD, hi]
  rw [e]
  exact h1
theorem all_snoc {us : List V5} {u : V5} {p : V5 → Prop} (h : ∀ v ∈ us, p v) (hu : p u) : ∀ v ∈ us ++ [u], p v := fun v hv => by
  rcases List.mem_append.1 hv with hv | hv
  · exact h v hv
  · simp at hv
    subst hv
    exact hu
set_option maxRecDepth 100000 in
set_option maxHeartbeats 6400000 in
theorem gather_ok (k : Int) (hk : 1 ≤ k ∧ k ≤ 6) (F : Nat → Prop) (b : Nat) (S : VS) (vs : List V5) (w : World) (hv : VecIs w F b S) (hR : Rep k S vs) (hwf : WF S) (hf : ∀ v ∈ vs, fitsV k v = true) (hnum : ∀ v ∈ vs, -9223372036854775808 ≤ v.n ∧ v.n ≤ 9223372036854775807) (hN : vs.length ≤ 100000000000)
    (A : Option Addr) (pl : List Int) (c : Nat) (hr : ReadsI w A pl) (hin : ∀ i ∈ pl, 0 ≤ i ∧ i < (vs.length : Int)) (hpl : pl.length ≤ 100000000000) :
    Calls Tryd.prog 14 #[.pointer (some ⟨b, 0, none⟩), .slice A pl.length c] w fun e w' => ∃ us, e = .returned (.tuple #[.pointer (some ⟨w.heap.size + 1, 0, none⟩), .int .i64 0]) ∧ EqR us (pl.map fun i => vs.getD i.toNat V5.zero) ∧ VecIs w' (fun j => w.heap.size ≤ j) (w.heap.size + 1) (ofL k us) ∧ (∀ v ∈ us, fitsV k v = true) ∧ (∀ v ∈ us, -9223372036854775808 ≤ v.n ∧ v.n ≤ 9223372036854775807) ∧ Below w.heap.size w w' := by
  have HAT : Aside0 (∀ W (i : Nat), Below w.heap.size w W → i < vs.length → Calls Tryd.prog 21 #[.pointer (some ⟨b, 0, none⟩), .int .i64 (i : Int)] W fun e w' => ∃ u : V5, e = .returned u.val ∧ Eq5 u (vs.getD i V5.zero) ∧ ReadsI w' u.A u.p ∧ (∀ a, u.A = some a → W.heap.size ≤ a.block) ∧ Below W.heap.size W w') := ⟨fun W i hb hi => at_any k hk F b S vs i W (vecIs_below hv hb) hR hwf hf hi hN⟩
  have HNUM : Aside0 (∀ i, i < vs.length → fitsV k (vs.getD i V5.zero) = true ∧ -9223372036854775808 ≤ (vs.getD i V5.zero).n ∧ (vs.getD i V5.zero).n ≤ 9223372036854775807) := ⟨fun i hi => by
    have hm : vs.getD i V5.zero ∈ vs := by rw [List.getD_eq_getElem?_getD, List.getElem?_eq_getElem hi]; exact List.getElem_mem _
    exact ⟨hf _ hm, hnum _ hm⟩⟩
  have hlen : S.nl.length = vs.length := by rw [hR.nulls, List.length_map]
  have hks := hR.kind
  have hn := new_any k w hk
  obtain ⟨m, hm⟩ : ∃ m, m = pl.length := ⟨_, rfl⟩
  have HM := Aside0.mk hm
  have HR := Aside0.mk hr
  have HIN := Aside0.mk hin
  have HKK := Aside0.mk hk
  rw [← hm] at hpl ⊢
  have hN9 : (m : Int) ≤ 100000000000 := by omega
  obtain ⟨nv, bv, iv, dv, hvv, mm, hV⟩ := hv
  have hbl := hV.box.lt
  have hc := hV.box.cells
  have hfz := hV.box.free
  rw [hlen, hks] at hc
  obtain ⟨N, hNN⟩ : ∃ N, N = vs.length := ⟨_, rfl⟩
  rw [← hNN] at hc hN
  have HNL := Aside0.mk hNN
  have HC1 : Aside0 (∀ W, Below w.heap.size w W → W.cell? ⟨b, 1, none⟩ = some (.int .i64 (N : Int))) := ⟨fun W h => (h.cell hbl).trans (hc 1)⟩
  clear hV hR hwf hf hnum hlen hks hm hr hin hk hNN
  go_enter Tryd.func14, Tryd.ntmps14
  go_wp2_with (go_at_call 7; go_loud (refine hn.mono ?_))
  first
    | (intro e W1 he hV1 hb1; subst he)
    | rintro e W1 ⟨rfl, hV1, hb1⟩
  clear hn hc hfz
  go_wp2
  go_loopg [16] (m + 1) (fun gg s16 wr => ∃ (j : Nat) (us : List V5), j ≤ m ∧ m < gg + j ∧ s16 = .int .i64 j ∧ us.length = j ∧ Aside0 (GatE vs pl us) ∧ Aside0 (∀ v ∈ us, fitsV k v = true) ∧ Aside0 (∀ v ∈ us, -9223372036854775808 ≤ v.n ∧ v.n ≤ 9223372036854775807) ∧ VecIs wr (fun i => w.heap.size ≤ i) (w.heap.size + 1) (ofL k us) ∧ Below w.heap.size w wr)
  case atStart => exact ⟨0, [], by omega, by omega, rfl, rfl, ⟨fun i hi => absurd hi (by simp)⟩, ⟨fun u hu => by cases hu⟩, ⟨fun u hu => by cases hu⟩, hV1, hb1⟩
  case round =>
    obtain ⟨j, us, hj, hg, rfl, hul, HE, HF, HNU, hVr, HB⟩ := hrel
    clear hV1 hb1
    have hj0 : (0 : Int) ≤ (j : Int) := by omega
    by_cases hlt : j < m
    · have hlti : (j : Int) < (m : Int) := by omega
      obtain ⟨ad, rfl, hx⟩ := (HR.out.below HB).at_ j (by have := HM.out; omega)
      have hxin := HIN.out (pl.getD j 0) (by rw [List.getD_eq_getElem?_getD, List.getElem?_eq_getElem (by have := HM.out; omega)]; exact List.getElem_mem _)
      obtain ⟨q, hq⟩ : ∃ q : Nat, pl.getD j 0 = (q : Int) := ⟨(pl.getD j 0).toNat, by omega⟩
      rw [hq] at hx hxin
      have hqN : q < vs.length := by omega
      have hqNi : (q : Int) < (N : Int) := by have := HNL.out; omega
      have hq0 : (0 : Int) ≤ (q : Int) := by omega
      have hN8 : (N : Int) ≤ 100000000000 := by omega
      have hat := HAT.out wr q HB hqN
      have hcN := HC1.out wr HB
      have HQ := Aside0.mk (And.intro hq hqN)
      have HO := Aside0.mk (And.intro hVr (And.intro hul HB))
      have HG := Aside0.mk (And.intro hj hg)
      clear hVr hul HB hq hqN hxin hj hg
      go_wp2_with (go_at_call 21; go_loud (refine hat.mono ?_))
      intro e W3 u he he5 hrd hbk hb3
      subst he
      rw [← List.getD_eq_getElem?_getD] at he5
      obtain ⟨hVr, hul, HB⟩ := HO.out
      have hnm := HNUM.out q HQ.out.2
      have hfit := fits5 he5 hnm.1
      have hB3 := below_then HB hb3
      have hkk := ofL_k k us
      have hwf : WF (ofL k us) := wf_ofL k HKK.out _ HF.out
      have hnl : (ofL k us).nl.length ≤ room k := by rw [ofL_nl, List.length_map]; have := room_ge k; omega
      have hcall := appOk_any k HKK.out u (fun i => w.heap.size ≤ i) (w.heap.size + 1) (ofL k us) W3 (vecIs_below hVr hb3) hkk hwf hnl hrd
      have hst : stepV (ofL k us) u = ofL k (us ++ [u]) := by rw [stepV, hkk, if_pos hfit, ofL_snoc2]
      have her : errV k u = 0 := if_pos hfit
      rw [hst, her] at hcall
      have HE2 : Aside0 (GatE vs pl (us ++ [u])) := ⟨gatE_snoc HE.out (by rw [hul, HQ.out.1]; exact he5)⟩
      have HF2 : Aside0 (∀ v ∈ us ++ [u], fitsV k v = true) := ⟨all_snoc HF.out hfit⟩
      have HNU2 : Aside0 (∀ v ∈ us ++ [u], -9223372036854775808 ≤ v.n ∧ v.n ≤ 9223372036854775807) := ⟨all_snoc (p := fun v => -9223372036854775808 ≤ v.n ∧ v.n ≤ 9223372036854775807) HNU.out (by rw [he5.2.1]; exact hnm.2)⟩
      have HLL : Aside0 ((us ++ [u]).length = j + 1) := ⟨by rw [List.length_append, hul]; rfl⟩
      have HCALL := Aside0.mk hcall
      have HWM := Aside0.mk hB3
      generalize us ++ [u] = us2 at HE2 HF2 HNU2 HLL HCALL
      clear hcall hB3 hVr hul HB hnm hfit hkk hwf hnl hst her he5 hrd hbk hb3 hat HE HF HNU HO
      obtain ⟨uk, un, ub, us5, uA, up, uc⟩ := u
      unfold V5.val at HCALL ⊢
      go_wp2_with (go_at_call 12; go_loud (refine HCALL.out.mono ?_))
      first
        | (intro e W2 he hV2 hk2; subst he)
        | rintro e W2 ⟨rfl, hV2, hk2⟩
      go_wp2
      go_roundg (gk - 1)
      case measure => have := HG.out; omega
      case rel => exact ⟨j + 1, us2, by omega, by have := HG.out; omega, by go_num, HLL.out, HE2, HF2, HNU2, vecIs_mono hV2 (fun i hi => hi.elim (fun h => h) (fun h => Nat.le_trans HWM.out.size h)), HWM.out.trans (hk2.below (fun i hi => hi) (HWM.out.size))⟩
    · obtain rfl : j = m := by omega
      have hjj : ¬ (j : Int) < (j : Int) := by omega
      go_wp2
      go_ret2
      exact ⟨rfl, us, gatE_row HE.out (by have := HM.out; omega), hVr, HF.out, HNU.out, HB⟩
end Go.Proofs.YtbdbcbpcekpcoaaDoor
