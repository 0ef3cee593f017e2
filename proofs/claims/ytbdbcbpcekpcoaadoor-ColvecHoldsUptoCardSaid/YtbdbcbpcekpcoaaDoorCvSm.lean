/- The law's Same: of a column and the document's that holds alike values. -/
import Derived.Test.YtbdbcbpcekpcoaaDoorCvDoc2
set_option linter.unusedVariables false
set_option linter.unusedSimpArgs false
namespace Go.Proofs.YtbdbcbpcekpcoaaDoor
open Go.RowKit Go.Maps

theorem same_nil (w : World) : Calls Tryd.prog 11 #[.pointer none, .pointer none] w fun e w' => e = .returned (.bool true) ∧ w' = w := by
  go_enter Tryd.func11, Tryd.ntmps11
  go_wp2
  go_ret
  exact ⟨rfl, rfl⟩
theorem push_dl (S : VS) (v : V5) (h : S.k = 3) : (pushV S v).dl = if v.k = 3 then (if v.s.data.toList ∈ keysL S.dl then S.dl else S.dl ++ [v.s]) else S.dl := by
  unfold pushV
  rw [if_neg (by omega), if_neg (by omega)]
  split <;> rfl
theorem push_dl0 (S : VS) (v : V5) (h : ¬ S.k = 3) (hf : v.k = S.k ∨ v.k = 0) : (pushV S v).dl = S.dl := by
  unfold pushV
  split
  · rfl
  split
  · rfl
  rw [if_neg (by omega)]
theorem fits_kind {k : Int} {v : V5} (h : fitsV k v = true) : v.k = k ∨ v.k = 0 := by
  unfold fitsV at h
  simp only [Bool.and_eq_true, Bool.or_eq_true, beq_iff_eq] at h
  exact h.2
theorem dl_other (k : Int) (hk : ¬ k = 3) : ∀ (vs : List V5) (S : VS), S.k = k → (∀ v ∈ vs, fitsV k v = true) → (vs.foldl pushV S).dl = S.dl
  | [], S, _, _ => rfl
  | v :: r, S, hS, hf => by
    rw [List.foldl_cons, dl_other k hk r _ (by rw [push_k]; exact hS) (fun u hu => hf u (List.mem_cons_of_mem _ hu)), push_dl0 S v (by rw [hS]; exact hk) (by rw [hS]; exact fits_kind (hf v (List.mem_cons_self ..)))]
theorem dl_text : ∀ (vs us : List V5) (S : VS), S.k = 3 → (∀ v ∈ vs, fitsV 3 v = true) → vs.map (fun v => (v.k, v.s)) = us.map (fun v => (v.k, v.s)) → (vs.foldl pushV S).dl = us.foldl stepD S.dl
  | [], us, S, _, _, he => by
    have : us = [] := by simpa using he.symm
    subst this
    rfl
  | v :: r, us, S, hS, hf, he => by
    cases us with
    | nil => simp at he
    | cons u us =>
      simp only [List.map_cons, List.cons.injEq, Prod.mk.injEq] at he
      obtain ⟨⟨h1, h2⟩, h3⟩ := he
      rw [List.foldl_cons, List.foldl_cons, dl_text r us _ (by rw [push_k]; exact hS) (fun u hu => hf u (List.mem_cons_of_mem _ hu)) h3, push_dl S v hS]
      congr 1
      rw [stepD, any_keys, ← h1, ← h2]
      have hk := fits_kind (hf v (List.mem_cons_self ..))
      by_cases hv : v.k = 3
      · have h0 : (v.k == 0) = false := by rw [hv]; rfl
        rw [if_pos hv, h0, Bool.false_or]
        by_cases hm : v.s.data.toList ∈ keysL S.dl
        · rw [if_pos hm, if_pos (by simpa using hm)]
        · rw [if_neg hm, if_neg (by simpa using hm)]
      · have h0 : (v.k == 0) = true := by rw [beq_iff_eq]; omega
        rw [if_neg hv, h0, Bool.true_or, if_pos rfl]
theorem eqR_map {vs us : List V5} (h : EqR vs us) {α : Type} (f : V5 → α) (hf : ∀ u v, Eq5 u v → f u = f v) : vs.map f = us.map f := by
  apply List.ext_getElem
  · rw [List.length_map, List.length_map, h.1]
  · intro i h1 h2
    rw [List.length_map] at h1 h2
    rw [List.getElem_map, List.getElem_map]
    have h3 := h.2 i h2
    rw [List.getD_eq_getElem?_getD, List.getD_eq_getElem?_getD, List.getElem?_eq_getElem h1, List.getElem?_eq_getElem h2] at h3
    exact hf _ _ h3
/-- The document's dictionary is the column's. -/
theorem rdict_col (k : Int) (hk : 1 ≤ k ∧ k ≤ 6) (rb : Nat) (A : Option Addr) (c : Nat) (us vs : List V5) (w : World) (hv : RVec w k rb A c us) (hq : EqR vs us) (hf : ∀ v ∈ vs, fitsV k v = true) (hN : us.length ≤ 100000000000) :
    Calls Tryd.prog 22 #[.pointer (some ⟨rb, 0, none⟩)] w fun e w' => ∃ A' c', e = .returned (.slice A' (ofL k vs).dl.length c') ∧ ReadsT w' A' (ofL k vs).dl ∧ Below w.heap.size w w' := by
  by_cases h3 : k = 3
  · subst h3
    have e : (ofL 3 vs).dl = dictR us := dl_text vs us _ rfl hf (eqR_map hq _ (fun u v h => by rw [h.1, h.2.2.2.1]))
    rw [e]
    exact rdict_text rb A c us w hv hN
  · have e : (ofL k vs).dl = [] := dl_other k h3 vs _ rfl hf
    rw [e]
    refine (rdict_none k (by simp [h3]) rb A c us w hv).mono ?_
    rintro e w' ⟨he, rfl⟩
    exact ⟨none, 0, he, ⟨by simp, fun h => absurd h (by simp)⟩, Below.refl _ _⟩
/-- The value at a place, or none. -/
def valAt (us : List V5) (z : Int) : V5 := if 0 ≤ z ∧ z < (us.length : Int) then us.getD z.toNat V5.zero else V5.zero
theorem rat_any (k : Int) (rb : Nat) (A : Option Addr) (c : Nat) (us : List V5) (z : Int) (w : World) (hv : RVec w k rb A c us) :
    Calls Tryd.prog 26 #[.pointer (some ⟨rb, 0, none⟩), .int .i64 z] w fun e w' => e = .returned (valAt us z).val ∧ ReadsI w' (valAt us z).A (valAt us z).p ∧ Below w.heap.size w w' := by
  unfold valAt
  by_cases hz : 0 ≤ z ∧ z < (us.length : Int)
  · rw [if_pos hz]
    obtain ⟨i, rfl⟩ : ∃ i : Nat, z = (i : Int) := ⟨z.toNat, by omega⟩
    rw [Int.toNat_natCast]
    have hi : i < us.length := by omega
    refine (rat_in k rb A c us i w hv hi).mono ?_
    rintro e w' ⟨he, hb⟩
    exact ⟨he, (hv.rd.path _ (by rw [List.getD_eq_getElem?_getD, List.getElem?_eq_getElem hi]; exact List.getElem_mem _)).below hb, hb⟩
  · rw [if_neg hz]
    refine (rat_out k rb A c us z w hv (by omega)).mono ?_
    rintro e w' ⟨he, hb⟩
    exact ⟨he, readsI_nil _, hb⟩
theorem pat_any {W : World} {k : Int} {b : Nat} {vs us : List V5} (h : ColOk W k b vs) (hk : 1 ≤ k ∧ k ≤ 6) (hN : vs.length ≤ 100000000000) (hq : EqR vs us) (z : Int) :
    Calls Tryd.prog 21 #[.pointer (some ⟨b, 0, none⟩), .int .i64 z] W fun e w' => (∃ u : V5, e = .returned u.val ∧ Aside0 (Eq5 u (valAt us z) ∧ ReadsI w' u.A u.p)) ∧ Below W.heap.size W w' := by
  unfold valAt
  by_cases hz : 0 ≤ z ∧ z < (us.length : Int)
  · rw [if_pos hz]
    obtain ⟨i, rfl⟩ : ∃ i : Nat, z = (i : Int) := ⟨z.toNat, by omega⟩
    rw [Int.toNat_natCast]
    have hi : i < us.length := by omega
    refine (at_any k hk _ b (ofL k vs) vs i W h.vec (rep_ofL k hk _ vs rfl h.fits) (wf_ofL k hk vs h.fits) h.fits (by rw [hq.1]; exact hi) hN).mono ?_
    rintro e w' ⟨u, he, h5, hr, _, hb⟩
    obtain ⟨a1, a2, a3, a4, a5⟩ := h5
    obtain ⟨b1, b2, b3, b4, b5⟩ := hq.2 i hi
    exact ⟨⟨u, he, ⟨⟨a1.trans b1, a2.trans b2, a3.trans b3, a4.trans b4, a5.trans b5⟩, hr⟩⟩, hb⟩
  · rw [if_neg hz]
    refine (at_out _ b (ofL k vs) z W h.vec (by rw [ofL_nl, List.length_map, hq.1]; omega)).mono ?_
    rintro e w' ⟨he, hb⟩
    exact ⟨⟨V5.zero, he, ⟨⟨rfl, rfl, rfl, rfl, rfl⟩, readsI_nil _⟩⟩, hb⟩
set_option maxRecDepth 100000 in
set_option maxHeartbeats 6400000 in
theorem same_ok (k : Int) (hk : 1 ≤ k ∧ k ≤ 6) (b rb : Nat) (A : Option Addr) (c : Nat) (us vs : List V5) (w : World) (hC : ColOk w k b vs) (hv : RVec w k rb A c us) (hq : EqR vs us) (hN : us.length ≤ 100000000) :
    Calls Tryd.prog 11 #[.pointer (some ⟨b, 0, none⟩), .pointer (some ⟨rb, 0, none⟩)] w fun e w' => e = .returned (.bool true) ∧ Below w.heap.size w w' := by
  have hqn := hq.1
  have HRD := Aside0.mk (rdict_col k hk rb A c us vs w hv hq hC.fits (by omega))
  have HDI : Aside0 (∀ W, Below w.heap.size w W → Calls Tryd.prog 23 #[.pointer (some ⟨b, 0, none⟩)] W fun e w' => ∃ A c, e = .returned (.slice A (ofL k vs).dl.length c) ∧ ReadsT w' A (ofL k vs).dl ∧ Below W.heap.size W w') := ⟨fun W h => dict_any _ b _ W (hC.below h).vec (by have h1 := (wf_ofL k hk vs hC.fits).dict; rw [ofL_nl, List.length_map] at h1; omega)⟩
  obtain ⟨DL, hDL⟩ : ∃ DL, DL = (ofL k vs).dl := ⟨_, rfl⟩
  have hdl : DL.length ≤ us.length := by have h1 := (wf_ofL k hk vs hC.fits).dict; rw [ofL_nl, List.length_map] at h1; rw [hDL]; omega
  rw [← hDL] at HRD HDI
  clear hDL
  have HKI : Aside0 (∀ W, Below w.heap.size w W → Calls Tryd.prog 24 #[.pointer (some ⟨b, 0, none⟩)] W fun e w' => e = .returned (.int .i64 k) ∧ w' = W) := ⟨fun W h => by
    have h1 := kind_any _ b _ W (hC.below h).vec
    rw [ofL_k] at h1
    exact h1⟩
  have HLE : Aside0 (∀ W, Below w.heap.size w W → Calls Tryd.prog 18 #[.pointer (some ⟨b, 0, none⟩)] W fun e w' => e = .returned (.int .i64 (us.length : Int)) ∧ w' = W) := ⟨fun W h => by
    have h1 := (hC.below h).len
    rw [hqn] at h1
    exact h1⟩
  have HNU : Aside0 (∀ W, Below w.heap.size w W → Calls Tryd.prog 19 #[.pointer (some ⟨b, 0, none⟩)] W fun e w' => e = .returned (.int .i64 (cntB (us.map fun v => v.k == 0) : Int)) ∧ w' = W) := ⟨fun W h => by
    have h1 := nulls_any _ b _ W (hC.below h).vec (by rw [ofL_nl, List.length_map]; omega)
    rw [ofL_nl, eqR_map hq (fun v => v.k == 0) (fun u v h => by rw [h.1])] at h1
    exact h1⟩
  have HRN : Aside0 (∀ W, Below w.heap.size w W → Calls Tryd.prog 25 #[.pointer (some ⟨rb, 0, none⟩)] W fun e w' => e = .returned (.int .i64 (cntB (us.map fun v => v.k == 0) : Int)) ∧ w' = W) := ⟨fun W h => rnulls_any k rb A c us W (hv.below h) (by omega)⟩
  have hcn : (cntB (us.map fun v => v.k == 0) : Int) ≤ 100000000 := by
    have h1 : cntB (us.map fun v => v.k == 0) ≤ (us.map fun v => v.k == 0).length := List.length_filter_le _ _
    rw [List.length_map] at h1
    omega
  generalize cntB (us.map fun v => v.k == 0) = nn at HNU HRN hcn
  have HPA : Aside0 (∀ W z, Below w.heap.size w W → Calls Tryd.prog 21 #[.pointer (some ⟨b, 0, none⟩), .int .i64 z] W fun e w' => (∃ u : V5, e = .returned u.val ∧ Aside0 (Eq5 u (valAt us z) ∧ ReadsI w' u.A u.p)) ∧ Below W.heap.size W w') := ⟨fun W z h => pat_any (hC.below h) hk (by omega) hq z⟩
  have HRA : Aside0 (∀ W z, Below w.heap.size w W → Calls Tryd.prog 26 #[.pointer (some ⟨rb, 0, none⟩), .int .i64 z] W fun e w' => e = .returned (valAt us z).val ∧ ReadsI w' (valAt us z).A (valAt us z).p ∧ Below W.heap.size W w') := ⟨fun W z h => rat_any k rb A c us z W (hv.below h)⟩
  have HVA : Aside0 (∀ W, Below w.heap.size w W → Calls Tryd.prog 28 #[.pointer (some ⟨b, 0, none⟩)] W fun e w' => ∃ rv us, e = .returned rv ∧ OwnV w' W.heap.size rv us ∧ EqR us vs ∧ (∀ u ∈ us, ∀ a, u.A = some a → W.heap.size ≤ a.block) ∧ Below W.heap.size W w') := ⟨fun W h => (hC.below h).values hk (by omega)⟩
  have hbw := hv.box.lt
  have HVB : Aside0 (∀ WW, Below w.heap.size w WW → ∀ i, WW.cell? ⟨rb, i, none⟩ = (#[.int .i64 k, .slice A us.length c] : Array Value)[i]?) := ⟨fun WW h => (hv.box.at_ (h.block _ hbw)).cells⟩
  have HRR := Aside0.mk (And.intro hv.rd hq)
  obtain ⟨n, hn⟩ : ∃ n, n = us.length := ⟨_, rfl⟩
  have HNN := Aside0.mk hn
  rw [← hn] at HLE HVB hN hdl
  have hn9 : (n : Int) ≤ 100000000 := by omega
  obtain ⟨m, hm⟩ : ∃ m, m = DL.length := ⟨_, rfl⟩
  have HMM := Aside0.mk hm
  rw [← hm] at HRD HDI hdl
  have hm9 : (m : Int) ≤ 100000000 := by omega
  have hkk : (k != k) = false := by simp
  have hnne : ((n : Int) != (n : Int)) = false := by simp
  have hnnn : ((nn : Int) != (nn : Int)) = false := by simp
  have hmmm : ((m : Int) != (m : Int)) = false := by simp
  clear hC hv hq hqn hbw hn hm hk
  go_enter Tryd.func11, Tryd.ntmps11
  have hrd := HRD.out
  go_wp2_with (go_at_call 22; go_loud (refine hrd.mono ?_))
  first
    | (intro e W1 h; have h : ∃ (A : Option Addr) (c : Nat), _ := h; obtain ⟨A1, c1, he, hT1, HB1⟩ := h; subst he)
    | (intro e W1 A1 c1 he hT1 HB1; subst he)
  have HT1 := Aside0.mk hT1
  have hdi := HDI.out W1 HB1
  clear hrd hT1 HRD HDI
  go_wp2_with (go_at_call 23; go_loud (refine hdi.mono ?_))
  first
    | (intro e W2 h; have h : ∃ (A : Option Addr) (c : Nat), _ := h; obtain ⟨A2, c2, he, hT2, hb2⟩ := h; subst he)
    | (intro e W2 A2 c2 he hT2 hb2; subst he)
  have HT12 := Aside0.mk (HT1.out.below hb2)
  have HT2 := Aside0.mk hT2
  have HB2 := below_then HB1 hb2
  clear hT2 hb2 hdi HT1 HB1
  have HB := HB2
  go_upto_region 5 with (fail)
  refine wp_region_held_drew (S := (fun WW => Below w.heap.size w WW)) (by kernel_rfl) ?_ (fun hHeld => ?_)
  · (repeat (first | exact HB2 | apply bdrew))
  refine take_in (i := 0) (v := ?v0a) rfl (by kernel_rfl) (by kernel_rfl) (by kernel_rfl) (fun _ _ _ h => h) (by rfl) ?hy0a (by assumption) ?_
  case hy0a => intro WW hSw; (try dsimp only at hSw); go_simp; try with_reducible rfl
  try simp only [Act.put, List.setIfInBounds_toArray, List.set_cons_zero, List.set_cons_succ]
  refine take_in (i := 2) (v := ?v2a) rfl (by kernel_rfl) (by kernel_rfl) (by kernel_rfl) (fun _ _ _ h => h) (by rfl) ?hy2a (by assumption) ?_
  case hy2a => intro WW hSw; (try dsimp only at hSw); go_simp; try with_reducible rfl
  try simp only [Act.put, List.setIfInBounds_toArray, List.set_cons_zero, List.set_cons_succ]
  refine take_in (i := 3) (v := ?v3a) rfl (by kernel_rfl) (by kernel_rfl) (by kernel_rfl) (fun _ _ _ h => h) (by rfl) ?hy3a (by assumption) ?_
  case hy3a => intro WW hSw; (try dsimp only at hSw); go_simp; try with_reducible rfl
  try simp only [Act.put, List.setIfInBounds_toArray, List.set_cons_zero, List.set_cons_succ]
  refine take_in (i := 4) (v := ?v4a) rfl (by kernel_rfl) (by kernel_rfl) (by kernel_rfl) (fun _ _ _ h => h) (by rfl) ?hy4a (by assumption) ?_
  case hy4a => intro WW hSw; (try dsimp only at hSw); go_simp; try with_reducible rfl
  try simp only [Act.put, List.setIfInBounds_toArray, List.set_cons_zero, List.set_cons_succ]
  refine take_in (i := 5) (v := .int .i64 k) rfl (by kernel_rfl) (by kernel_rfl) (by kernel_rfl) (fun _ _ _ h => h) (by rfl) ?hy5a (by assumption) ?_
  case hy5a => intro WW hSw; have h1 := HVB.out WW hSw; go_simp; try with_reducible rfl
  try simp only [Act.put, List.setIfInBounds_toArray, List.set_cons_zero, List.set_cons_succ]
  refine one_step (i := 1) (by kernel_rfl) rfl (fun K hK => ?_)
  go_simp
  go_at_call 24
  go_loud (refine (HKI.out _ (by repeat (first | exact HB2 | apply bdrew))).mono ?_)
  (intro e W' hWE; obtain ⟨rfl, hWe⟩ := hWE; obtain rfl := hWe.symm; clear hWe)
  refine hK.out _ _ ?_ (fun hHeld => ?_)
  · (repeat (first | exact HB2 | apply bdrew))
  clear hK K
  try simp only [Act.put, List.setIfInBounds_toArray, List.set_cons_zero, List.set_cons_succ]
  refine take_in (i := 6) (v := .bool false) rfl (by kernel_rfl) (by kernel_rfl) (by kernel_rfl) (fun _ _ _ h => h) (by rfl) ?hy6a (by assumption) ?_
  case hy6a => intro WW hSw; have hh := hkk; go_simp; try with_reducible rfl
  try simp only [Act.put, List.setIfInBounds_toArray, List.set_cons_zero, List.set_cons_succ]
  refine take_in (i := 7) (v := .bool false) rfl (by kernel_rfl) (by kernel_rfl) (by kernel_rfl) (fun _ _ _ h => h) (by rfl) ?hy7a (by assumption) ?_
  case hy7a => intro WW hSw; (try dsimp only at hSw); go_simp; try with_reducible rfl
  try simp only [Act.put, List.setIfInBounds_toArray, List.set_cons_zero, List.set_cons_succ]
  refine take_in (i := 8) (v := ?v8a) rfl (by kernel_rfl) (by kernel_rfl) (by kernel_rfl) (fun _ _ _ h => h) (by rfl) ?hy8a (by assumption) ?_
  case hy8a => intro WW hSw; (try dsimp only at hSw); go_simp; try with_reducible rfl
  try simp only [Act.put, List.setIfInBounds_toArray, List.set_cons_zero, List.set_cons_succ]
  refine take_in (i := 10) (v := ?v10a) rfl (by kernel_rfl) (by kernel_rfl) (by kernel_rfl) (fun _ _ _ h => h) (by rfl) ?hy10a (by assumption) ?_
  case hy10a => intro WW hSw; (try dsimp only at hSw); go_simp; try with_reducible rfl
  try simp only [Act.put, List.setIfInBounds_toArray, List.set_cons_zero, List.set_cons_succ]
  refine take_in (i := 11) (v := ?v11a) rfl (by kernel_rfl) (by kernel_rfl) (by kernel_rfl) (fun _ _ _ h => h) (by rfl) ?hy11a (by assumption) ?_
  case hy11a => intro WW hSw; (try dsimp only at hSw); go_simp; try with_reducible rfl
  try simp only [Act.put, List.setIfInBounds_toArray, List.set_cons_zero, List.set_cons_succ]
  refine take_in (i := 12) (v := ?v12a) rfl (by kernel_rfl) (by kernel_rfl) (by kernel_rfl) (fun _ _ _ h => h) (by rfl) ?hy12a (by assumption) ?_
  case hy12a => intro WW hSw; (try dsimp only at hSw); go_simp; try with_reducible rfl
  try simp only [Act.put, List.setIfInBounds_toArray, List.set_cons_zero, List.set_cons_succ]
  refine take_in (i := 13) (v := .slice A n c) rfl (by kernel_rfl) (by kernel_rfl) (by kernel_rfl) (fun _ _ _ h => h) (by rfl) ?hy13a (by assumption) ?_
  case hy13a => intro WW hSw; have h1 := HVB.out WW hSw; go_simp; try with_reducible rfl
  try simp only [Act.put, List.setIfInBounds_toArray, List.set_cons_zero, List.set_cons_succ]
  refine take_in (i := 14) (v := .int .i64 (n : Int)) rfl (by kernel_rfl) (by kernel_rfl) (by kernel_rfl) (fun _ _ _ h => h) (by rfl) ?hy14a (by assumption) ?_
  case hy14a => intro WW hSw; (try dsimp only at hSw); go_simp; try with_reducible rfl
  try simp only [Act.put, List.setIfInBounds_toArray, List.set_cons_zero, List.set_cons_succ]
  refine one_step (i := 9) (by kernel_rfl) rfl (fun K hK => ?_)
  go_simp
  go_at_call 18
  go_loud (refine (HLE.out _ (by repeat (first | exact HB2 | apply bdrew))).mono ?_)
  (intro e W' hWE; obtain ⟨rfl, hWe⟩ := hWE; obtain rfl := hWe.symm; clear hWe)
  refine hK.out _ _ ?_ (fun hHeld => ?_)
  · (repeat (first | exact HB2 | apply bdrew))
  clear hK K
  try simp only [Act.put, List.setIfInBounds_toArray, List.set_cons_zero, List.set_cons_succ]
  refine take_in (i := 15) (v := .bool false) rfl (by kernel_rfl) (by kernel_rfl) (by kernel_rfl) (fun _ _ _ h => h) (by rfl) ?hy15a (by assumption) ?_
  case hy15a => intro WW hSw; have hh := hnne; go_simp; try with_reducible rfl
  try simp only [Act.put, List.setIfInBounds_toArray, List.set_cons_zero, List.set_cons_succ]
  refine take_in (i := 16) (v := .bool false) rfl (by kernel_rfl) (by kernel_rfl) (by kernel_rfl) (fun _ _ _ h => h) (by rfl) ?hy16a (by assumption) ?_
  case hy16a => intro WW hSw; (try dsimp only at hSw); go_simp; try with_reducible rfl
  try simp only [Act.put, List.setIfInBounds_toArray, List.set_cons_zero, List.set_cons_succ]
  refine take_in (i := 17) (v := .bool false) rfl (by kernel_rfl) (by kernel_rfl) (by kernel_rfl) (fun _ _ _ h => h) (by rfl) ?hy17a (by assumption) ?_
  case hy17a => intro WW hSw; (try dsimp only at hSw); go_simp; try with_reducible rfl
  try simp only [Act.put, List.setIfInBounds_toArray, List.set_cons_zero, List.set_cons_succ]
  refine take_in (i := 18) (v := ?v18a) rfl (by kernel_rfl) (by kernel_rfl) (by kernel_rfl) (fun _ _ _ h => h) (by rfl) ?hy18a (by assumption) ?_
  case hy18a => intro WW hSw; (try dsimp only at hSw); go_simp; try with_reducible rfl
  try simp only [Act.put, List.setIfInBounds_toArray, List.set_cons_zero, List.set_cons_succ]
  refine take_in (i := 20) (v := ?v20a) rfl (by kernel_rfl) (by kernel_rfl) (by kernel_rfl) (fun _ _ _ h => h) (by rfl) ?hy20a (by assumption) ?_
  case hy20a => intro WW hSw; (try dsimp only at hSw); go_simp; try with_reducible rfl
  try simp only [Act.put, List.setIfInBounds_toArray, List.set_cons_zero, List.set_cons_succ]
  refine one_step (i := 19) (by kernel_rfl) rfl (fun K hK => ?_)
  go_simp
  go_at_call 19
  go_loud (refine (HNU.out _ (by repeat (first | exact HB2 | apply bdrew))).mono ?_)
  (intro e W' hWE; obtain ⟨rfl, hWe⟩ := hWE; obtain rfl := hWe.symm; clear hWe)
  refine hK.out _ _ ?_ (fun hHeld => ?_)
  · (repeat (first | exact HB2 | apply bdrew))
  clear hK K
  try simp only [Act.put, List.setIfInBounds_toArray, List.set_cons_zero, List.set_cons_succ]
  refine one_step (i := 21) (by kernel_rfl) rfl (fun K hK => ?_)
  go_simp
  go_at_call 25
  go_loud (refine (HRN.out _ (by repeat (first | exact HB2 | apply bdrew))).mono ?_)
  (intro e W' hWE; obtain ⟨rfl, hWe⟩ := hWE; obtain rfl := hWe.symm; clear hWe)
  refine hK.out _ _ ?_ (fun hHeld => ?_)
  · (repeat (first | exact HB2 | apply bdrew))
  clear hK K
  try simp only [Act.put, List.setIfInBounds_toArray, List.set_cons_zero, List.set_cons_succ]
  refine take_in (i := 22) (v := .bool false) rfl (by kernel_rfl) (by kernel_rfl) (by kernel_rfl) (fun _ _ _ h => h) (by rfl) ?hy22a (by assumption) ?_
  case hy22a => intro WW hSw; have hh := hnnn; go_simp; try with_reducible rfl
  try simp only [Act.put, List.setIfInBounds_toArray, List.set_cons_zero, List.set_cons_succ]
  refine take_in (i := 23) (v := .bool false) rfl (by kernel_rfl) (by kernel_rfl) (by kernel_rfl) (fun _ _ _ h => h) (by rfl) ?hy23a (by assumption) ?_
  case hy23a => intro WW hSw; (try dsimp only at hSw); go_simp; try with_reducible rfl
  try simp only [Act.put, List.setIfInBounds_toArray, List.set_cons_zero, List.set_cons_succ]
  refine take_in (i := 24) (v := .bool false) rfl (by kernel_rfl) (by kernel_rfl) (by kernel_rfl) (fun _ _ _ h => h) (by rfl) ?hy24a (by assumption) ?_
  case hy24a => intro WW hSw; (try dsimp only at hSw); go_simp; try with_reducible rfl
  try simp only [Act.put, List.setIfInBounds_toArray, List.set_cons_zero, List.set_cons_succ]
  refine take_in (i := 25) (v := ?v25a) rfl (by kernel_rfl) (by kernel_rfl) (by kernel_rfl) (fun _ _ _ h => h) (by rfl) ?hy25a (by assumption) ?_
  case hy25a => intro WW hSw; (try dsimp only at hSw); go_simp; try with_reducible rfl
  try simp only [Act.put, List.setIfInBounds_toArray, List.set_cons_zero, List.set_cons_succ]
  refine take_in (i := 26) (v := ?v26a) rfl (by kernel_rfl) (by kernel_rfl) (by kernel_rfl) (fun _ _ _ h => h) (by rfl) ?hy26a (by assumption) ?_
  case hy26a => intro WW hSw; (try dsimp only at hSw); go_simp; try with_reducible rfl
  try simp only [Act.put, List.setIfInBounds_toArray, List.set_cons_zero, List.set_cons_succ]
  refine take_in (i := 27) (v := ?v27a) rfl (by kernel_rfl) (by kernel_rfl) (by kernel_rfl) (fun _ _ _ h => h) (by rfl) ?hy27a (by assumption) ?_
  case hy27a => intro WW hSw; (try dsimp only at hSw); go_simp; try with_reducible rfl
  try simp only [Act.put, List.setIfInBounds_toArray, List.set_cons_zero, List.set_cons_succ]
  refine take_in (i := 28) (v := ?v28a) rfl (by kernel_rfl) (by kernel_rfl) (by kernel_rfl) (fun _ _ _ h => h) (by rfl) ?hy28a (by assumption) ?_
  case hy28a => intro WW hSw; (try dsimp only at hSw); go_simp; try with_reducible rfl
  try simp only [Act.put, List.setIfInBounds_toArray, List.set_cons_zero, List.set_cons_succ]
  refine take_in (i := 29) (v := .bool false) rfl (by kernel_rfl) (by kernel_rfl) (by kernel_rfl) (fun _ _ _ h => h) (by rfl) ?hy29a (by assumption) ?_
  case hy29a => intro WW hSw; have hh := hmmm; go_simp; try with_reducible rfl
  try simp only [Act.put, List.setIfInBounds_toArray, List.set_cons_zero, List.set_cons_succ]
  refine take_in (i := 30) (v := .bool false) rfl (by kernel_rfl) (by kernel_rfl) (by kernel_rfl) (fun _ _ _ h => h) (by rfl) ?hy30a (by assumption) ?_
  case hy30a => intro WW hSw; (try dsimp only at hSw); go_simp; try with_reducible rfl
  try simp only [Act.put, List.setIfInBounds_toArray, List.set_cons_zero, List.set_cons_succ]
  refine wpAnyH_done (by kernel_rfl) ?_ _
  go_wp2
  have HBX : Below w.heap.size w W2.drew := bdrew HB2
  go_loopg [7] (m + 1) (fun gg s7 wr => ∃ j : Nat, j ≤ m ∧ m < gg + j ∧ s7 = .int .i64 j ∧ Below W2.heap.size W2 wr)
  case atStart => exact ⟨0, by omega, by omega, rfl, bdrew (Below.refl _ _)⟩
  case round =>
    obtain ⟨j, hj, hg, rfl, HB⟩ := hrel
    have hj0 : (0 : Int) ≤ (j : Int) := by omega
    by_cases hlt : j < m
    · have hlti : (j : Int) < (m : Int) := by omega
      obtain ⟨ada, rfl, hca⟩ := (HT12.out.below HB).at_ j (by have := HMM.out; omega)
      obtain ⟨adb, rfl, hcb⟩ := (HT2.out.below HB).at_ j (by have := HMM.out; omega)
      generalize DL.getD j ByteArray.empty = x at hca hcb
      have hxx : (x.toList != x.toList) = false := by simp
      have HBB := Aside0.mk HB
      clear HB
      go_upto_region 10 with (fail)
      refine wp_region_held_drew (S := (fun WW => WW.cell? (ada.add j) = some (.string x) ∧ WW.cell? (adb.add j) = some (.string x))) (by kernel_rfl) ?_ (fun hHeld => ?_)
      · exact ⟨hca, hcb⟩
      refine take_in (i := 0) (v := ?v0b) rfl (by kernel_rfl) (by kernel_rfl) (by kernel_rfl) (fun _ _ _ h => h) (by rfl) ?hy0b (by assumption) ?_
      case hy0b => intro WW hSw; (try dsimp only at hSw); go_simp; try with_reducible rfl
      try simp only [Act.put, List.setIfInBounds_toArray, List.set_cons_zero, List.set_cons_succ]
      refine take_in (i := 1) (v := ?v1b) rfl (by kernel_rfl) (by kernel_rfl) (by kernel_rfl) (fun _ _ _ h => h) (by rfl) ?hy1b (by assumption) ?_
      case hy1b => intro WW hSw; (try dsimp only at hSw); go_simp; try with_reducible rfl
      try simp only [Act.put, List.setIfInBounds_toArray, List.set_cons_zero, List.set_cons_succ]
      refine take_in (i := 2) (v := ?v2b) rfl (by kernel_rfl) (by kernel_rfl) (by kernel_rfl) (fun _ _ _ h => h) (by rfl) ?hy2b (by assumption) ?_
      case hy2b => intro WW hSw; (try dsimp only at hSw); go_simp; try with_reducible rfl
      try simp only [Act.put, List.setIfInBounds_toArray, List.set_cons_zero, List.set_cons_succ]
      refine take_in (i := 3) (v := ?v3b) rfl (by kernel_rfl) (by kernel_rfl) (by kernel_rfl) (fun _ _ _ h => h) (by rfl) ?hy3b (by assumption) ?_
      case hy3b => intro WW hSw; (try dsimp only at hSw); go_simp; try with_reducible rfl
      try simp only [Act.put, List.setIfInBounds_toArray, List.set_cons_zero, List.set_cons_succ]
      refine take_in (i := 4) (v := ?v4b) rfl (by kernel_rfl) (by kernel_rfl) (by kernel_rfl) (fun _ _ _ h => h) (by rfl) ?hy4b (by assumption) ?_
      case hy4b => intro WW hSw; (try dsimp only at hSw); go_simp; try with_reducible rfl
      try simp only [Act.put, List.setIfInBounds_toArray, List.set_cons_zero, List.set_cons_succ]
      refine take_in (i := 5) (v := ?v5b) rfl (by kernel_rfl) (by kernel_rfl) (by kernel_rfl) (fun _ _ _ h => h) (by rfl) ?hy5b (by assumption) ?_
      case hy5b => intro WW hSw; (try dsimp only at hSw); go_simp; try with_reducible rfl
      try simp only [Act.put, List.setIfInBounds_toArray, List.set_cons_zero, List.set_cons_succ]
      refine take_in (i := 6) (v := ?v6b) rfl (by kernel_rfl) (by kernel_rfl) (by kernel_rfl) (fun _ _ _ h => h) (by rfl) ?hy6b (by assumption) ?_
      case hy6b => intro WW hSw; (try dsimp only at hSw); go_simp; try with_reducible rfl
      try simp only [Act.put, List.setIfInBounds_toArray, List.set_cons_zero, List.set_cons_succ]
      refine take_in (i := 7) (v := ?v7b) rfl (by kernel_rfl) (by kernel_rfl) (by kernel_rfl) (fun _ _ _ h => h) (by rfl) ?hy7b (by assumption) ?_
      case hy7b => intro WW hSw; (try dsimp only at hSw); go_simp; try with_reducible rfl
      try simp only [Act.put, List.setIfInBounds_toArray, List.set_cons_zero, List.set_cons_succ]
      refine take_in (i := 8) (v := .bool false) rfl (by kernel_rfl) (by kernel_rfl) (by kernel_rfl) (fun _ _ _ h => h) (by rfl) ?hy8b (by assumption) ?_
      case hy8b => intro WW hSw; (try dsimp only at hSw); have hh := hxx; go_simp; try with_reducible rfl
      try simp only [Act.put, List.setIfInBounds_toArray, List.set_cons_zero, List.set_cons_succ]
      refine wpAnyH_done (by kernel_rfl) ?_ _
      go_wp2
      go_roundg (gk - 1)
      case measure => omega
      case rel => exact ⟨j + 1, by omega, by omega, by go_num, by repeat (first | exact HBB.out | apply bdrew)⟩
    · obtain rfl : j = m := by omega
      have hjj : ¬ (j : Int) < (j : Int) := by omega
      have HBL := Aside0.mk (below_then HB2 HB)
      clear HB hj hg
      go_wp2
      generalize wr = W3 at HBL ⊢
      go_loopg [8] (n + 3) (fun gg s8 wr => ∃ i : Nat, i ≤ n + 2 ∧ n + 2 < gg + i ∧ s8 = .int .i64 ((i : Int) - 1) ∧ Below w.heap.size w wr)
      case atStart => exact ⟨0, by omega, by omega, rfl, HBL.out⟩
      case round =>
        obtain ⟨i, hi, hg, rfl, HB⟩ := hrel
        have hvb := HVB.out wr HB
        by_cases hlt : i < n + 2
        · obtain ⟨z, hz⟩ : ∃ z : Int, z = (i : Int) - 1 := ⟨_, rfl⟩
          have hz0 : -1 ≤ z := by omega
          have hz1 : z ≤ (n : Int) := by omega
          have hz2 : ¬ (n : Int) < z := by omega
          have hpa := HPA.out wr z HB
          have HG := Aside0.mk (And.intro hz (And.intro hi (And.intro hg hlt)))
          have HBZ := Aside0.mk HB
          rw [← hz]
          clear hz hi hg hlt HB
          go_wp2_with (go_at_call 21; go_loud (refine hpa.mono ?_))
          intro e W5 u he hU hb5
          subst he
          have HB5 := below_then HBZ.out hb5
          have hra := HRA.out W5 z HB5
          obtain ⟨hE, hRu⟩ := hU.out
          generalize valAt us z = v at hra hE
          obtain ⟨uk, un, ub, us5, uA, up, uc⟩ := u
          obtain ⟨vk, vn, vb, vs5, vA, vp, vc⟩ := v
          have hsb := sameB_eq hE
          simp only at hsb hRu hra
          have HU := Aside0.mk (And.intro hsb hRu)
          unfold V5.val at hra ⊢
          clear hU hb5 hpa hE hRu hsb hvb
          go_wp2_with (go_at_call 26; go_loud (refine hra.mono ?_))
          rintro e W6 ⟨rfl, hRv, hb6⟩
          have HB6 := below_then HB5 hb6
          have hsm := same_any uk un ub us5 uA up uc vk vn vb vs5 vA vp vc W6 (HU.out.2.below hb6) hRv
          rw [HU.out.1] at hsm
          clear hra hb6 hRv
          go_wp2_with (go_at_call 20; go_loud (refine hsm.mono ?_))
          first
            | (intro e W7 he hb7; subst he)
            | rintro e W7 ⟨rfl, hb7⟩
          have HB7 := below_then HB6 hb7
          clear hsm hb7
          go_wp2
          go_roundg (gk - 1)
          case measure => have := HG.out; omega
          case rel => exact ⟨i + 1, by have := HG.out; omega, by have := HG.out; omega, by have h := HG.out.1; rw [h]; congr 1; omega, HB7⟩
        · obtain rfl : i = n + 2 := by omega
          have hzz : ¬ ((n + 2 : Nat) : Int) - 1 ≤ (n : Int) := by omega
          obtain ⟨z, hz⟩ : ∃ z : Int, z = ((n + 2 : Nat) : Int) - 1 := ⟨_, rfl⟩
          have hz1 : (n : Int) < z := by omega
          have hva := HVA.out wr HB
          have HBZ := Aside0.mk HB
          rw [← hz]
          clear hz hzz hi hg hlt HB
          go_upto_region 18 with (fail)
          clear hvb
          have HB := HBZ.out
          refine wp_region_held_drew (S := (fun WW => Below w.heap.size w WW)) (by kernel_rfl) ?_ (fun hHeld => ?_)
          · (repeat (first | exact HB8 | exact HB7 | exact HB | apply bdrew))
          refine take_in (i := 0) (v := ?v0c) rfl (by kernel_rfl) (by kernel_rfl) (by kernel_rfl) (fun _ _ _ h => h) (by rfl) ?hy0c (by assumption) ?_
          case hy0c => intro WW hSw; (try dsimp only at hSw); go_simp; try with_reducible rfl
          try simp only [Act.put, List.setIfInBounds_toArray, List.set_cons_zero, List.set_cons_succ]
          refine take_in (i := 2) (v := ?v2c) rfl (by kernel_rfl) (by kernel_rfl) (by kernel_rfl) (fun _ _ _ h => h) (by rfl) ?hy2c (by assumption) ?_
          case hy2c => intro WW hSw; (try dsimp only at hSw); go_simp; try with_reducible rfl
          try simp only [Act.put, List.setIfInBounds_toArray, List.set_cons_zero, List.set_cons_succ]
          refine take_in (i := 3) (v := ?v3c) rfl (by kernel_rfl) (by kernel_rfl) (by kernel_rfl) (fun _ _ _ h => h) (by rfl) ?hy3c (by assumption) ?_
          case hy3c => intro WW hSw; (try dsimp only at hSw); go_simp; try with_reducible rfl
          try simp only [Act.put, List.setIfInBounds_toArray, List.set_cons_zero, List.set_cons_succ]
          refine take_in (i := 4) (v := ?v4c) rfl (by kernel_rfl) (by kernel_rfl) (by kernel_rfl) (fun _ _ _ h => h) (by rfl) ?hy4c (by assumption) ?_
          case hy4c => intro WW hSw; (try dsimp only at hSw); go_simp; try with_reducible rfl
          try simp only [Act.put, List.setIfInBounds_toArray, List.set_cons_zero, List.set_cons_succ]
          refine take_in (i := 5) (v := .slice A n c) rfl (by kernel_rfl) (by kernel_rfl) (by kernel_rfl) (fun _ _ _ h => h) (by rfl) ?hy5c (by assumption) ?_
          case hy5c => intro WW hSw; have h1 := HVB.out WW hSw; go_simp; try with_reducible rfl
          try simp only [Act.put, List.setIfInBounds_toArray, List.set_cons_zero, List.set_cons_succ]
          refine one_step (i := 1) (by kernel_rfl) rfl (fun K hK => ?_)
          go_simp
          go_at_call 28
          go_loud (refine (HVA.out _ (by repeat (first | exact HB | apply bdrew))).mono ?_)
          rintro e W7 ⟨rv, xs, rfl, hO7, hq7, _, hb7⟩
          have HB7 : Below w.heap.size w W7 := below_then (by repeat (first | exact HB | apply bdrew)) hb7
          obtain ⟨A7, c7, rfl, hrd7⟩ := hO7.reads
          have HR7 := Aside0.mk (And.intro hrd7 hq7)
          clear hO7 hq7 hb7 hrd7
          refine hK.out _ _ ?_ (fun hHeld => ?_)
          · (repeat (first | exact HB8 | exact HB7 | exact HB | apply bdrew))
          clear hK K
          try simp only [Act.put, List.setIfInBounds_toArray, List.set_cons_zero, List.set_cons_succ]
          refine one_step (i := 6) (by kernel_rfl) rfl (fun K hK => ?_)
          have hsr := samerow_any A7 xs c7 A us c W7 HR7.out.1 (HRR.out.1.below HB7) (eqR_trans HR7.out.2 HRR.out.2)
          rw [← HNN.out] at hsr
          go_simp
          go_at_call 27
          go_loud (refine hsr.mono ?_)
          rintro e W8 ⟨rfl, hb8⟩
          have HB8 : Below w.heap.size w W8 := below_then HB7 hb8
          clear hsr hb8
          refine hK.out _ _ ?_ (fun hHeld => ?_)
          · (repeat (first | exact HB8 | exact HB7 | exact HB | apply bdrew))
          clear hK K
          try simp only [Act.put, List.setIfInBounds_toArray, List.set_cons_zero, List.set_cons_succ]
          refine take_in (i := 7) (v := ?v7c) rfl (by kernel_rfl) (by kernel_rfl) (by kernel_rfl) (fun _ _ _ h => h) (by rfl) ?hy7c (by assumption) ?_
          case hy7c => intro WW hSw; (try dsimp only at hSw); go_simp; try with_reducible rfl
          try simp only [Act.put, List.setIfInBounds_toArray, List.set_cons_zero, List.set_cons_succ]
          refine wpAnyH_done (by kernel_rfl) ?_ _
          go_wp2
          go_ret
          exact ⟨rfl, by repeat (first | exact HB8 | apply bdrew)⟩
end Go.Proofs.YtbdbcbpcekpcoaaDoor
