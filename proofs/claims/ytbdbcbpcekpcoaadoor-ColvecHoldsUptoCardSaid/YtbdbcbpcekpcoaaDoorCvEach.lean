/- A column's values, told. -/
import Derived.Test.YtbdbcbpcekpcoaaDoorCvVal
set_option linter.unusedVariables false
set_option linter.unusedSimpArgs false
namespace Go.Proofs.YtbdbcbpcekpcoaaDoor
open Go.RowKit Go.Maps

/-- Rows of values are alike, but for where paths lie. -/
def EqR (us vs : List V5) : Prop := us.length = vs.length ∧ ∀ i, i < vs.length → Eq5 (us.getD i V5.zero) (vs.getD i V5.zero)
set_option maxRecDepth 100000 in
set_option maxHeartbeats 3200000 in
theorem each_any (k : Int) (hk : 1 ≤ k ∧ k ≤ 6) (F : Nat → Prop) (b : Nat) (S : VS) (vs : List V5) (w : World) (hv : VecIs w F b S) (hR : Rep k S vs) (hwf : WF S) (hf : ∀ v ∈ vs, fitsV k v = true) (hnum : ∀ v ∈ vs, -9223372036854775808 ≤ v.n ∧ v.n ≤ 9223372036854775807) (hN : vs.length ≤ 100000000000) :
    Calls Tryd.prog 36 #[.int .i64 (vs.length : Int), .func (.func 21) #[.pointer (some ⟨b, 0, none⟩)] #[]] w fun e w' => ∃ rv us, e = .returned rv ∧ OwnV w' w.heap.size rv us ∧ EqR us vs ∧ (∀ u ∈ us, ∀ a, u.A = some a → w.heap.size ≤ a.block) ∧ Below w.heap.size w w' := by
  have HAT : Aside0 (∀ W i, Below w.heap.size w W → i < vs.length → Calls Tryd.prog 21 #[.pointer (some ⟨b, 0, none⟩), .int .i64 (i : Int)] W fun e w' => ∃ u : V5, e = .returned u.val ∧ Eq5 u (vs.getD i V5.zero) ∧ ReadsI w' u.A u.p ∧ (∀ a, u.A = some a → W.heap.size ≤ a.block) ∧ Below W.heap.size W w') := ⟨fun W i hb hi => at_any k hk F b S vs i W (vecIs_below hv hb) hR hwf hf hi hN⟩
  have HNUM : Aside0 (∀ i, i < vs.length → -9223372036854775808 ≤ (vs.getD i V5.zero).n ∧ (vs.getD i V5.zero).n ≤ 9223372036854775807) := ⟨fun i hi => hnum _ (by rw [List.getD_eq_getElem?_getD, List.getElem?_eq_getElem hi]; exact List.getElem_mem _)⟩
  have HW : Aside0 (∀ (rv : Value) (us : List V5) (w' : World), OwnV w' w.heap.size rv us → us.length = vs.length → (∀ i, i < us.length → Eq5 (us.getD i V5.zero) (vs.getD i V5.zero)) → EqR us vs) := ⟨fun rv us w' _ h1 h2 => ⟨h1, fun i hi => h2 i (by omega)⟩⟩
  obtain ⟨m, hm⟩ : ∃ m, m = vs.length := ⟨_, rfl⟩
  have HM := Aside0.mk hm
  rw [← hm] at hN ⊢
  have hN9 : (m : Int) ≤ 100000000000 := by omega
  clear hv hR hwf hf hnum hm
  go_enter Tryd.func36, Tryd.ntmps36
  go_wp2
  go_loopg [5, 8] (m + 1) (fun gg s5 s8 wr => ∃ (j : Nat) (us : List V5), j ≤ m ∧ m < gg + j ∧ s8 = .int .i64 j ∧ us.length = j ∧ OwnV wr w.heap.size s5 us ∧ Aside0 (∀ i, i < us.length → Eq5 (us.getD i V5.zero) (vs.getD i V5.zero)) ∧ Aside0 (∀ u ∈ us, ∀ a, u.A = some a → w.heap.size ≤ a.block) ∧ Below w.heap.size w wr)
  case atStart => exact ⟨0, [], by omega, by omega, rfl, rfl, ownV_nil _ _, ⟨fun i hi => absurd hi (by simp)⟩, ⟨fun u hu => by cases hu⟩, Below.refl _ _⟩
  case round =>
    obtain ⟨j, us, hj, hg, rfl, hul, hO, HE, HLW, HB⟩ := hrel
    have hj0 : (0 : Int) ≤ (j : Int) := by omega
    by_cases hlt : j < m
    · have hlti : (j : Int) < (m : Int) := by omega
      have hat := HAT.out wr j HB (by have := HM.out; omega)
      have HO := Aside0.mk (And.intro hO (And.intro hul HB))
      clear hul hO HB
      go_wp2_with (go_at_call 21; go_loud (refine hat.mono ?_))
      rintro e W3 ⟨u, rfl, he5, hrd, hbk, hb3⟩
      have hnm := HNUM.out j (by have := HM.out; omega)
      have hO3 := HO.out.1.below hb3
      have hB3 := below_then HO.out.2.2 hb3
      have HAP : Aside0 (∀ a, u.A = some a → 0 < u.p.length → u5.ownBlock ≠ some a.block) := ⟨fun a e _ e2 => by
        have h1 := hbk a e
        have h2 := (HO.out.1.row.lt a.block e2).2
        omega⟩
      have hun : -9223372036854775808 ≤ u.n ∧ u.n ≤ 9223372036854775807 := by rw [he5.2.1]; exact hnm
      have HE2 : Aside0 (∀ i, i < (us ++ [u]).length → Eq5 ((us ++ [u]).getD i V5.zero) (vs.getD i V5.zero)) := ⟨fun i hi => by
        rw [List.length_append, List.length_cons, List.length_nil] at hi
        by_cases hlt : i < us.length
        · rw [getD_snoc_lt _ _ _ _ hlt]
          exact HE.out i hlt
        · obtain rfl : i = us.length := by omega
          rw [getD_snoc_eq, HO.out.2.1]
          exact he5⟩
      have HLW2 : Aside0 (∀ v ∈ us ++ [u], ∀ a, v.A = some a → w.heap.size ≤ a.block) := ⟨fun v hv a e => by
        rcases List.mem_append.1 hv with hv | hv
        · exact HLW.out v hv a e
        · simp at hv
          subst hv
          exact Nat.le_trans HO.out.2.2.size (hbk a e)⟩
      have HRD := Aside0.mk (And.intro hrd hun)
      have HO3 := Aside0.mk (And.intro hO3 hB3)
      clear he5 hrd hbk hb3 hO3 hB3 hun hnm hat
      obtain ⟨uk, un, ub, us5, uA, up, uc⟩ := u
      unfold V5.val
      go_wp2_with (at_builtin; go_loud (refine append_val (wr := W3) rfl (.tmp 11) (.tmp 15) rfl w.heap.size u5 us rfl HO3.out.1 HO3.out.2.size ⟨uk, un, ub, us5, uA, up, uc⟩ rfl (by have := HO.out.2.1; omega) HRD.out.1 HAP.out HRD.out.2 ?_))
      intro v' W5 hO5 hB5
      have HO5 := Aside0.mk (And.intro hO5 (HO3.out.2.trans hB5))
      clear hO5 hB5
      go_wp2
      go_roundg (gk - 1)
      case measure => omega
      case rel => exact ⟨j + 1, _, by omega, by omega, by go_num, by rw [List.length_append, HO.out.2.1]; rfl, HO5.out.1, HE2, HLW2, HO5.out.2⟩
    · obtain rfl : j = m := by omega
      have hjj : ¬ (j : Int) < (j : Int) := by omega
      go_wp2
      go_ret
      exact ⟨_, rfl, us, hO, ⟨by have := HM.out; omega, fun i hi => HE.out i (by have := HM.out; omega)⟩, HLW.out, HB⟩
end Go.Proofs.YtbdbcbpcekpcoaaDoor
