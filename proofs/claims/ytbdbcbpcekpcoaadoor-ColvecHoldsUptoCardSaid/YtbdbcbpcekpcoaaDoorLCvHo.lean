/- The walk of the law ColvecHolds. -/
import Derived.Test.YtbdbcbpcekpcoaaDoorCvHol
set_option linter.unusedVariables false
set_option linter.unusedSimpArgs false
namespace Go.Proofs.YtbdbcbpcekpcoaaDoor
open Go.RowKit Go.Maps

theorem holds5_blk {W W' : World} {ad : Addr} {v : V5} (h : Holds5 W ad v) (e : W'.heap[ad.block]? = W.heap[ad.block]?) : Holds5 W' ad v := by
  obtain ⟨h1, h2, c0, c1, c2, c3, c4⟩ := h
  have hc : ∀ p : Addr, p.block = ad.block → W'.cell? p = W.cell? p := fun p hp => by
    unfold World.cell?
    rw [hp, e]
  have hl : ad.block < W'.heap.size := by
    rcases Nat.lt_or_ge ad.block W'.heap.size with h | h
    · exact h
    · rw [Array.getElem?_eq_none (by omega), Array.getElem?_eq_getElem h1] at e
      cases e
  exact ⟨hl, h2, (hc ad rfl).trans c0, (hc ⟨ad.block, ad.off + 1, none⟩ rfl).trans c1, (hc ⟨ad.block, ad.off + 2, none⟩ rfl).trans c2, (hc ⟨ad.block, ad.off + 3, none⟩ rfl).trans c3, (hc ⟨ad.block, ad.off + 4, none⟩ rfl).trans c4⟩
theorem add_block (a : Addr) (n : Nat) : (a.add n).block = a.block := by
  unfold Addr.add
  split <;> rfl
theorem mut_not {us : List V5} {B m k : Nat} (h1 : k < B) (h2 : ∀ j, j < m → j < us.length → ∀ a, (us.getD j V5.zero).A = some a → 0 < (us.getD j V5.zero).p.length → a.block ≠ k) : ¬ Mut us B m k := by
  rintro (h | ⟨j, hj, hl, a, e, h0, eb⟩)
  · omega
  · exact h2 j hj hl a e h0 eb
theorem getD_mem5 {us : List V5} {j : Nat} (h : j < us.length) : us.getD j V5.zero ∈ us := by
  rw [List.getD_eq_getElem?_getD, List.getElem?_eq_getElem h]
  exact List.getElem_mem _
theorem cop_row {V2 wr : World} {B1 m : Nat} {A2 : Option Addr} {c2 : Nat} {us : List V5} (h : Cop V2 B1 (.slice A2 us.length c2) us) (hK : KeptBut (Mut us V2.heap.size m) V2 wr) (i : Nat) (hi : i < us.length) : ∃ ad, A2 = some ad ∧ Holds5 wr (ad.add (i * 5)) (us.getD i V5.zero) ∧ (ad.add (i * 5)).block < V2.heap.size ∧ ∀ j, j < us.length → ∀ a, (us.getD j V5.zero).A = some a → a.block ≠ (ad.add (i * 5)).block := by
  obtain ⟨A', c', e, hr⟩ := h.own.reads
  cases e
  obtain ⟨ad, rfl, h5⟩ := hr.row i hi
  have hsep : ∀ j, j < us.length → ∀ a, (us.getD j V5.zero).A = some a → a.block ≠ (ad.add (i * 5)).block := fun j hl a e eb => by
    rw [add_block] at eb
    exact h.sep _ (getD_mem5 hl) a e (by rw [eb]; rfl)
  exact ⟨ad, rfl, holds5_blk h5 (hK.block _ h5.lt (mut_not h5.lt (fun j _ hl a e _ => hsep j hl a e))), h5.lt, hsep⟩
theorem cop_path {V2 wr : World} {B1 m : Nat} {rv : Value} {us : List V5} (h : Cop V2 B1 rv us) (hK : KeptBut (Mut us V2.heap.size m) V2 wr) (i : Nat) (hm : m ≤ i) (hi : i < us.length) (h0 : 0 < (us.getD i V5.zero).p.length) : PathOwn wr B1 (us.getD i V5.zero) ∧ ∀ a, (us.getD i V5.zero).A = some a → B1 ≤ a.block ∧ a.block < V2.heap.size := by
  have hp := h.path _ (getD_mem5 hi)
  refine ⟨pathOwn_at hp (fun a e => hK.block _ (pathOwn_lt hp e).2 (mut_not (pathOwn_lt hp e).2 (fun j hj hl b eb hb0 => ?_))), fun a e => pathOwn_lt hp e⟩
  have hpw := List.pairwise_iff_getElem.1 h.apart j i hl hi (by omega)
  have e1 : us.getD j V5.zero = us[j] := by rw [List.getD_eq_getElem?_getD, List.getElem?_eq_getElem hl]; rfl
  have e2 : us.getD i V5.zero = us[i] := by rw [List.getD_eq_getElem?_getD, List.getElem?_eq_getElem hi]; rfl
  rw [e1] at eb hb0
  rw [e2] at e h0
  exact hpw b a eb e hb0 h0
theorem path_reads {W : World} {B : Nat} {u : V5} (h : PathOwn W B u) : ReadsI W u.A u.p := by
  obtain ⟨A', c', e, hr⟩ := pathOwn_reads h
  cases e
  exact hr
theorem takes_iff {k : Int} {us vs : List V5} (h : EqR us vs) : Takes k us ↔ Takes k vs := ⟨fun t => ⟨t.1, fits_row (eqR_symm h) t.2⟩, fun t => ⟨t.1, fits_row h t.2⟩⟩
/-- What Of made: nothing, or a column. -/
def PO (W : World) (k : Int) (po : Option Addr) (us : List V5) : Prop := (¬ Takes k us ∧ po = none) ∨ (Takes k us ∧ ∃ b, po = some ⟨b, 0, none⟩ ∧ ColOk W k b us)
def RO (W : World) (k : Int) (qo : Option Addr) (vs : List V5) : Prop := (¬ Takes k vs ∧ qo = none) ∨ (Takes k vs ∧ ∃ rb A c, qo = some ⟨rb, 0, none⟩ ∧ RVec W k rb A c vs)
def IsF (k : Int) (vs : List V5) (F : Int) : Prop := (Takes k vs → F = 0) ∧ (¬ Takes k vs → F = if 1 ≤ k ∧ k ≤ 6 then 31 else 1)
theorem isF_ex (k : Int) (vs : List V5) : ∃ F, IsF k vs F := by
  by_cases h : Takes k vs
  · exact ⟨0, fun _ => rfl, fun n => absurd h n⟩
  · exact ⟨_, fun y => absurd y h, fun _ => rfl⟩
theorem pofP (k : Int) (A : Option Addr) (us : List V5) (c : Nat) (F : Int) (w : World) (hF : IsF k us F) (hr : ReadsV w A us) (hN : us.length ≤ 100000000) :
    Calls Tryd.prog 9 #[.int .i64 k, .slice A us.length c] w fun e w' => (∃ po, e = .returned (.tuple #[.pointer po, .int .i64 F]) ∧ Aside0 (PO w' k po us)) ∧ Below w.heap.size w w' := by
  by_cases h : Takes k us
  · refine (pof_ok k A us c w h hr hN).mono ?_
    rintro e w' ⟨he, hC, hb⟩
    exact ⟨⟨_, by rw [hF.1 h]; exact he, ⟨.inr ⟨h, _, rfl, hC⟩⟩⟩, hb⟩
  · refine (pof_no k A us c w h hr hN).mono ?_
    rintro e w' ⟨he, hb⟩
    exact ⟨⟨none, by rw [hF.2 h]; exact he, ⟨.inl ⟨h, rfl⟩⟩⟩, hb⟩
theorem rofP (k : Int) (A : Option Addr) (vs : List V5) (c : Nat) (F : Int) (w : World) (hF : IsF k vs F) (hr : ReadsV w A vs) (hT : Lib.Utf8Tabs 0 1 w) (hss : ∀ v ∈ vs, v.s.size ≤ 9223372036854775807) (hN : vs.length ≤ 100000000) :
    Calls Tryd.prog 10 #[.int .i64 k, .slice A vs.length c] w fun e w' => (∃ qo, e = .returned (.tuple #[.pointer qo, .int .i64 F]) ∧ Aside0 (RO w' k qo vs)) ∧ Below w.heap.size w w' := by
  by_cases h : Takes k vs
  · refine (rof_okT k A vs c w h hr hT hss hN).mono ?_
    rintro e w' ⟨he, ⟨A', c', hV⟩, hb⟩
    exact ⟨⟨_, by rw [hF.1 h]; exact he, ⟨.inr ⟨h, _, A', c', rfl, hV⟩⟩⟩, hb⟩
  · refine (rof_noT k A vs c w h hr hT hss hN).mono ?_
    rintro e w' ⟨he, hb⟩
    exact ⟨⟨none, by rw [hF.2 h]; exact he, ⟨.inl ⟨h, rfl⟩⟩⟩, hb⟩
theorem PO.below {W W' : World} {k : Int} {po : Option Addr} {us : List V5} (h : PO W k po us) (hb : Below W.heap.size W W') : PO W' k po us := by
  rcases h with h | ⟨h1, b, h2, h3⟩
  · exact .inl h
  · exact .inr ⟨h1, b, h2, h3.below hb⟩
theorem same_po (k : Int) (po qo : Option Addr) (us vs : List V5) (W : World) (h : PO W k po us) (h2 : RO W k qo vs) (hq : EqR us vs) (hN : vs.length ≤ 100000000) :
    Calls Tryd.prog 11 #[.pointer po, .pointer qo] W fun e w' => e = .returned (.bool true) ∧ Below W.heap.size W w' := by
  rcases h with ⟨h, rfl⟩ | ⟨h, b, rfl, hC⟩
  · rcases h2 with ⟨_, rfl⟩ | ⟨h2, _⟩
    · exact same_nilB W
    · exact absurd ((takes_iff hq).2 h2) h
  · rcases h2 with ⟨h2, _⟩ | ⟨h2, rb, A, c, rfl, hV⟩
    · exact absurd ((takes_iff hq).1 h) h2
    · exact same_ok k h.1 b rb A c vs us W hC hV hq hN
theorem eqR_cons {u v : V5} {us vs : List V5} (h : EqR (u :: us) (v :: vs)) : Eq5 u v ∧ EqR us vs :=
  ⟨h.2 0 (by simp), by have := h.1; simpa using this, fun i hi => h.2 (i + 1) (by simpa using hi)⟩
theorem cons_eqR {u v : V5} {us vs : List V5} (h : Eq5 u v) (h2 : EqR us vs) : EqR (u :: us) (v :: vs) :=
  ⟨by simp [h2.1], fun i hi => by
    cases i with
    | zero => exact h
    | succ i => exact h2.2 i (by simpa using hi)⟩
theorem eqR_filter (k : Int) : ∀ (us vs : List V5), EqR us vs → EqR (us.filter (fitsV k)) (vs.filter (fitsV k))
  | [], [], _ => ⟨rfl, fun i hi => by simp at hi⟩
  | [], v :: vs, h => by have := h.1; simp at this
  | u :: us, [], h => by have := h.1; simp at this
  | u :: us, v :: vs, h => by
    obtain ⟨h1, h2⟩ := eqR_cons h
    have hf : fitsV k u = fitsV k v := by
      obtain ⟨a1, a2, a3, a4, a5⟩ := h1
      unfold fitsV
      rw [a1, a2, a3, a4, a5]
    rw [List.filter_cons, List.filter_cons, hf]
    split
    · exact cons_eqR h1 (eqR_filter k us vs h2)
    · exact eqR_filter k us vs h2
theorem HI.same {V2 wr : World} {k : Int} (hk : 1 ≤ k ∧ k ≤ 6) {bv br : Nat} {us vs : List V5} {n m : Nat} (h : HI V2 wr k bv br us vs n n m) (hn : n = vs.length) (hq : EqR us vs) (hnum : ∀ u ∈ us, -9223372036854775808 ≤ u.n ∧ u.n ≤ 9223372036854775807) (hN : vs.length ≤ 100000000) :
    Calls Tryd.prog 11 #[.pointer (some ⟨bv, 0, none⟩), .pointer (some ⟨br, 0, none⟩)] wr fun e w' => e = .returned (.bool true) ∧ Below wr.heap.size wr w' := by
  obtain ⟨_, Z, rv, h1, _, h3, _, _⟩ := h
  rw [List.take_of_length_le (by have := hq.1; omega)] at h1
  rw [List.take_of_length_le (by omega)] at h3
  obtain ⟨A, c, hV⟩ := h3.vec
  exact same_ok k hk bv br A c _ _ wr ⟨vecIs_mono h1 (fun _ _ => trivial), filter_fits k us, fun u hu => hnum u (List.mem_filter.1 hu).1⟩ hV (eqR_filter k us vs hq) (Nat.le_trans (List.length_filter_le _ _) hN)
theorem row_zero {W : World} {B : Nat} {e : TypeId} {z n c : Nat} {A : Option Addr} {xs : List Value} (h : W.ownsRow B e z (.slice A n c) n xs) (hn : 0 < n) : ∃ g, A = some ⟨g, 0, none⟩ ∧ B ≤ g := by
  rcases h.2 with ⟨e1, _⟩ | ⟨g, cap, cur, e1, hg, _⟩
  · cases e1
    omega
  · cases e1
    exact ⟨g, rfl, hg⟩
/-- A path that is being changed. -/
def MutI (V W : World) (B : Nat) (u : V5) : Prop := KeptBut (fun j => 0 < u.p.length ∧ ∃ a, u.A = some a ∧ a.block = j) V W ∧ (0 < u.p.length → ∃ p' : List Int, p'.length = u.p.length ∧ W.ownsRow B 2 1 (.slice u.A u.p.length u.c) u.p.length (numCells p'))
theorem numCells_set (p : List Int) (q : Nat) (y : Int) : (numCells p).set q (.int .i64 y) = numCells (p.set q y) := by simp [numCells, List.map_set]
theorem err_eq {k : Int} {u v : V5} (h : Eq5 u v) : errV k u = errV k v := by
  obtain ⟨a1, a2, a3, a4, a5⟩ := h
  unfold errV fitsV
  rw [a1, a2, a3, a4, a5]
set_option maxRecDepth 100000 in
set_option maxHeartbeats 6400000 in
theorem holds_walk (k : Int) (A : Option Addr) (vs : List V5) (c : Nat) (w : World) (hr : ReadsV w A vs) (hN : vs.length ≤ 1048576) (hss : ∀ v ∈ vs, v.s.size ≤ 9223372036854775807) (hpl : ∀ v ∈ vs, v.p.length ≤ 1000000000000) (hT : Lib.Utf8Tabs 0 1 w) :
    Calls Tryd.prog 3 #[.int .i64 k, .slice A vs.length c] w fun e w' => e = .returned (.bool true) ∧ Below w.heap.size w w' := by
  have hH := head_any w
  have HCP : Aside0 (∀ W, Below w.heap.size w W → Calls Tryd.prog 6 #[.slice A vs.length c] W fun e w' => (∃ rv, e = .returned rv ∧ Aside0 (∃ us, Cop w' W.heap.size rv us ∧ EqR us vs)) ∧ Below W.heap.size W w') := ⟨fun W h => copied_any A vs c W (hr.below h) (by omega) hpl⟩
  have HR := Aside0.mk hr
  have HS := Aside0.mk (And.intro hss hT)
  have HNN := Aside0.mk hN
  obtain ⟨F, hF⟩ := isF_ex k vs
  have HF := Aside0.mk hF
  obtain ⟨n, hn⟩ : ∃ n, n = vs.length := ⟨_, rfl⟩
  have HE := Aside0.mk hn
  rw [← hn] at HCP hN ⊢
  have hn9 : (n : Int) ≤ 1048576 := by omega
  clear hr hss hpl hT hF hn
  go_enter Tryd.func3, Tryd.ntmps3
  go_wp2_with (go_at_call 5; go_loud (refine hH.mono ?_))
  first
    | (intro e V1 he HB1; subst he)
    | rintro e V1 ⟨rfl, HB1⟩
  have hcp := HCP.out V1 HB1
  clear hH HCP
  go_wp2_with (go_at_call 6; go_loud (refine hcp.mono ?_))
  first
    | (intro e V2 h; have h : (∃ (rv : Value), _) ∧ _ := h; obtain ⟨⟨rv, he, hU⟩, hb2⟩ := h; subst he)
    | (intro e V2 rv he hU hb2; subst he)
  obtain ⟨us, hcop, hq⟩ := hU.out
  obtain ⟨A2, c2, rfl, hrd2⟩ := hcop.own.reads
  have HB2 := below_then HB1 hb2
  have HCO := Aside0.mk hcop
  have HQ := Aside0.mk hq
  have HRD2 := Aside0.mk hrd2
  have HLU : Aside0 (us.length = n) := ⟨by rw [hq.1, HE.out]⟩
  have HFU : Aside0 (IsF k us F) := ⟨⟨fun t => HF.out.1 ((takes_iff hq).1 t), fun t => HF.out.2 (fun t2 => t ((takes_iff hq).2 t2))⟩⟩
  have HSZ : Aside0 (w.heap.size ≤ V1.heap.size ∧ V1.heap.size ≤ V2.heap.size) := ⟨HB1.size, hb2.size⟩
  rw [HLU.out]
  clear hcp hU hcop hq hrd2 HB1 hb2
  by_cases hk : 1 ≤ k ∧ k ≤ 6
  · have hn3 := new_any k V2 hk
    have HK := Aside0.mk hk
    clear hk
    go_wp2_with (go_at_call 7; go_loud (refine hn3.mono ?_))
    first
      | (intro e V3 he hV3 hb3; subst he)
      | rintro e V3 ⟨rfl, hV3, hb3⟩
    have hn4 := rnew_ok k V3 HK.out
    have HV3 := Aside0.mk (And.intro hV3 hb3)
    have HB3 := below_then HB2 hb3
    clear hn3 hV3 hb3
    go_wp2_with (go_at_call 8; go_loud (refine hn4.mono ?_))
    first
      | (intro e V4 he hV4 hb4; subst he)
      | rintro e V4 ⟨rfl, hV4, hb4⟩
    have HI4 := Aside0.mk (HI.start HK.out us vs HV3.out.1 HV3.out.2 hV4 hb4)
    have HB4 := below_then HB3 hb4
    have HRD4 := Aside0.mk (HRD2.out.below (below_then HV3.out.2 hb4))
    clear hn4 hV4 hb4 HV3
    generalize V2.heap.size + 1 = bv at HI4 ⊢
    generalize V3.heap.size = br at HI4 ⊢
    have HCL := Aside0.mk (pofP k A2 us c2 F V4 HFU.out HRD4.out (by have := HLU.out; omega))
    rw [HLU.out] at HCL
    go_wp2_with (go_at_call 9; go_loud (refine HCL.out.mono ?_))
    first
      | (intro e Y5 h; have h : (∃ (po : Option Addr), _) ∧ _ := h; obtain ⟨⟨po, he, hU⟩, hb5⟩ := h; subst he)
      | (intro e Y5 po he hU hb5; subst he)
    have HB5 := below_then HB4 hb5
    have HI5 := Aside0.mk (HI4.out.below hb5)
    clear HCL HRD4 HI4 hb5 HB4
    have HCL := Aside0.mk (rofP k A vs c F Y5 HF.out (HR.out.below HB5) (Utf8Tabs_below HS.out.2 HB5) HS.out.1 (by have := HNN.out; omega))
    rw [← HE.out] at HCL
    go_wp2_with (go_at_call 10; go_loud (refine HCL.out.mono ?_))
    first
      | (intro e V6 h; have h : (∃ (po : Option Addr), _) ∧ _ := h; obtain ⟨⟨qo, he, hU2⟩, hb6⟩ := h; subst he)
      | (intro e V6 qo he hU2 hb6; subst he)
    have HB6 := below_then HB5 hb6
    have HI6 := Aside0.mk (HI5.out.below hb6)
    have hsm := same_po k po qo us vs V6 (hU.out.below hb6) hU2.out HQ.out (by have := HNN.out; omega)
    clear HCL HI5 hb6 HB5 hU hU2
    go_wp2_with (go_at_call 11; go_loud (refine hsm.mono ?_))
    rintro e V7 ⟨rfl, hb7⟩
    have HB7 := below_then HB6 hb7
    have HI7 := Aside0.mk (HI6.out.below hb7)
    have hFF : (F != F) = false := by simp
    clear hsm hb7 HB6 HI6
    go_wp2
    clear hFF
    have hHV2 := Aside0.mk HB2
    go_loopg [14] (n + 1) (fun gg s14 wr => ∃ i : Nat, i ≤ n ∧ n < gg + i ∧ s14 = .int .i64 i ∧ HI V2 wr k bv br us vs i i i ∧ Below w.heap.size w wr)
    case atStart => exact ⟨0, by omega, by omega, rfl, HI7.out, HB7⟩
    case round =>
      obtain ⟨i, hi, hg, rfl, hI, HB⟩ := hrel
      have hi0 : (0 : Int) ≤ (i : Int) := by omega
      by_cases hlt : i < n
      · have hlti : (i : Int) < (n : Int) := by omega
        have hiu : i < us.length := by have := HLU.out; omega
        have hiv : i < vs.length := by have := HE.out; omega
        obtain ⟨ad2, rfl, h5u, hbu, hsep⟩ := cop_row HCO.out hI.kept i hiu
        obtain ⟨ad, rfl, h5v⟩ := (HR.out.below HB).row i hiv
        have hpv := HR.out.path _ (getD_mem5 hiv)
        have hVB := hHV2.out
        have HPA : Aside0 (∀ WW, Below wr.heap.size wr WW → Calls Tryd.prog 12 #[.pointer (some ⟨bv, 0, none⟩), (us.getD i V5.zero).val] WW fun e w' => e = .returned (.int .i64 (errV k (vs.getD i V5.zero))) ∧ Aside0 (HI V2 w' k bv br us vs (i + 1) i i) ∧ Below V2.heap.size WW w') := ⟨fun WW hWW => by
          have h1 := hI.stepP HK.out hWW hiu (by have := HNN.out; have := HLU.out; have := HE.out; omega) (by
            rcases Nat.eq_zero_or_pos (us.getD i V5.zero).p.length with h0 | h0
            · exact ⟨by omega, fun h => by omega⟩
            · exact (path_reads (cop_path HCO.out hI.kept i (Nat.le_refl _) hiu h0).1).below hWW)
          rw [err_eq (HQ.out.2 i hiv)] at h1
          exact h1⟩
        have HRA : Aside0 (∀ V8 WW, HI V2 V8 k bv br us vs (i + 1) i i → Below V8.heap.size V8 WW → Below w.heap.size w WW → Calls Tryd.prog 13 #[.pointer (some ⟨br, 0, none⟩), (vs.getD i V5.zero).val] WW fun e w' => e = .returned (.int .i64 (errV k (vs.getD i V5.zero))) ∧ Aside0 (HI V2 w' k bv br us vs (i + 1) (i + 1) i) ∧ Below V2.heap.size WW w') := ⟨fun V8 WW h8 hWW hw => h8.stepR hWW hiv (by have := HNN.out; omega) (Utf8Tabs_below HS.out.2 hw) (hpv.below hw) (HS.out.1 _ (getD_mem5 hiv)) (fun a e h0 => by have := readsI_lt (e ▸ hpv) h0; have := HSZ.out; omega) (HR.out.num _ (getD_mem5 hiv))⟩
        have HU0 : Aside0 (0 < (us.getD i V5.zero).p.length → PathOwn wr V1.heap.size (us.getD i V5.zero) ∧ ∀ a, (us.getD i V5.zero).A = some a → V1.heap.size ≤ a.block ∧ a.block < V2.heap.size) := ⟨fun h0 => cop_path HCO.out hI.kept i (Nat.le_refl _) hiu h0⟩
        have HPL : Aside0 ((us.getD i V5.zero).p.length ≤ 9223372036854775807) := ⟨(HCO.out.own.path _ (getD_mem5 hiu)).1⟩
        obtain ⟨u, hu⟩ : ∃ u, u = us.getD i V5.zero := ⟨_, rfl⟩
        obtain ⟨v, hv⟩ : ∃ v, v = vs.getD i V5.zero := ⟨_, rfl⟩
        rw [← hu] at HPA HU0 HPL h5u
        rw [← hv] at HPA HRA h5v
        obtain ⟨E, hEE⟩ : ∃ E, E = errV k v := ⟨_, rfl⟩
        rw [← hEE] at HPA HRA
        have HUU := Aside0.mk hu
        have hEn : (E != E) = false := by simp
        obtain ⟨uk, un, ub, uss, uA, up, uc⟩ := u
        obtain ⟨vk, vn, vb, vss, vA, vp, vc⟩ := v
        have H5U : Aside0 (∀ WW, Below V2.heap.size wr WW → Holds5 WW (ad2.add (i * 5)) ⟨uk, un, ub, uss, uA, up, uc⟩) := ⟨fun WW h => holds5_blk h5u (h.block _ hbu)⟩
        have hbv : (ad.add (i * 5)).block < V2.heap.size := by
          obtain ⟨ad9, e9, h9⟩ := HR.out.row i hiv
          cases e9
          have := h9.lt
          have := HSZ.out
          omega
        have H5V : Aside0 (∀ WW, Below V2.heap.size wr WW → Holds5 WW (ad.add (i * 5)) ⟨vk, vn, vb, vss, vA, vp, vc⟩) := ⟨fun WW h => holds5_blk h5v (h.block _ hbv)⟩
        have HII := Aside0.mk hI
        have HG : Aside0 (i ≤ n ∧ n < gk + i) := ⟨hi, hg⟩
        obtain ⟨G, hG⟩ : ∃ G, G = gk := ⟨_, rfl⟩
        rw [← hG] at HG
        have HGE := Aside0.mk hG
        have HBr : Below V2.heap.size wr wr := Below.refl _ _
        have HBW := Aside0.mk HB
        have HIDX := Aside0.mk (And.intro hiu hiv)
        unfold V5.val at HPA HRA
        simp only at HPA HRA HPL HU0
        clear hG hi hg hI HB h5u h5v hbu hbv hsep hpv hu hv hEE hiu hiv hVB
        go_upto_region 15 with (fail)
        refine wp_region_held_drew (S := (fun WW => Below V2.heap.size wr WW)) (by kernel_rfl) ?_ (fun hHeld => ?_)
        · (repeat (first | exact HB16 | exact HB15 | exact HBr | apply bdrew))
        refine take_in (i := 0) (v := ?v0a) rfl (by kernel_rfl) (by kernel_rfl) (by kernel_rfl) (fun _ _ _ h => h) (by rfl) ?hy0a (by assumption) ?_
        case hy0a => intro WW hSw; (try dsimp only at hSw); go_simp; try with_reducible rfl
        try simp only [Act.put, List.setIfInBounds_toArray, List.set_cons_zero, List.set_cons_succ]
        refine take_in (i := 1) (v := ?v1a) rfl (by kernel_rfl) (by kernel_rfl) (by kernel_rfl) (fun _ _ _ h => h) (by rfl) ?hy1a (by assumption) ?_
        case hy1a => intro WW hSw; (try dsimp only at hSw); go_simp; try with_reducible rfl
        try simp only [Act.put, List.setIfInBounds_toArray, List.set_cons_zero, List.set_cons_succ]
        refine take_in (i := 2) (v := ?v2a) rfl (by kernel_rfl) (by kernel_rfl) (by kernel_rfl) (fun _ _ _ h => h) (by rfl) ?hy2a (by assumption) ?_
        case hy2a => intro WW hSw; (try dsimp only at hSw); go_simp; try with_reducible rfl
        try simp only [Act.put, List.setIfInBounds_toArray, List.set_cons_zero, List.set_cons_succ]
        refine take_in (i := 3) (v := ?v3a) rfl (by kernel_rfl) (by kernel_rfl) (by kernel_rfl) (fun _ _ _ h => h) (by rfl) ?hy3a (by assumption) ?_
        case hy3a => intro WW hSw; (try dsimp only at hSw); go_simp; try with_reducible rfl
        try simp only [Act.put, List.setIfInBounds_toArray, List.set_cons_zero, List.set_cons_succ]
        refine take_in (i := 4) (v := .agg #[.int .i64 uk, .bool ub, .int .i64 un, .string uss, .slice uA up.length uc]) rfl (by kernel_rfl) (by kernel_rfl) (by kernel_rfl) (fun _ _ _ h => h) (by rfl) ?hy4a (by assumption) ?_
        case hy4a => intro WW hSw; obtain ⟨x1, x2, x3, x4, x5, x6, x7⟩ := H5U.out WW hSw; go_simp; try with_reducible rfl
        try simp only [Act.put, List.setIfInBounds_toArray, List.set_cons_zero, List.set_cons_succ]
        refine take_in (i := 6) (v := ?v6a) rfl (by kernel_rfl) (by kernel_rfl) (by kernel_rfl) (fun _ _ _ h => h) (by rfl) ?hy6a (by assumption) ?_
        case hy6a => intro WW hSw; (try dsimp only at hSw); go_simp; try with_reducible rfl
        try simp only [Act.put, List.setIfInBounds_toArray, List.set_cons_zero, List.set_cons_succ]
        refine take_in (i := 7) (v := ?v7a) rfl (by kernel_rfl) (by kernel_rfl) (by kernel_rfl) (fun _ _ _ h => h) (by rfl) ?hy7a (by assumption) ?_
        case hy7a => intro WW hSw; (try dsimp only at hSw); go_simp; try with_reducible rfl
        try simp only [Act.put, List.setIfInBounds_toArray, List.set_cons_zero, List.set_cons_succ]
        refine take_in (i := 8) (v := ?v8a) rfl (by kernel_rfl) (by kernel_rfl) (by kernel_rfl) (fun _ _ _ h => h) (by rfl) ?hy8a (by assumption) ?_
        case hy8a => intro WW hSw; (try dsimp only at hSw); go_simp; try with_reducible rfl
        try simp only [Act.put, List.setIfInBounds_toArray, List.set_cons_zero, List.set_cons_succ]
        refine take_in (i := 9) (v := ?v9a) rfl (by kernel_rfl) (by kernel_rfl) (by kernel_rfl) (fun _ _ _ h => h) (by rfl) ?hy9a (by assumption) ?_
        case hy9a => intro WW hSw; (try dsimp only at hSw); go_simp; try with_reducible rfl
        try simp only [Act.put, List.setIfInBounds_toArray, List.set_cons_zero, List.set_cons_succ]
        refine take_in (i := 10) (v := .agg #[.int .i64 vk, .bool vb, .int .i64 vn, .string vss, .slice vA vp.length vc]) rfl (by kernel_rfl) (by kernel_rfl) (by kernel_rfl) (fun _ _ _ h => h) (by rfl) ?hy10a (by assumption) ?_
        case hy10a => intro WW hSw; obtain ⟨x1, x2, x3, x4, x5, x6, x7⟩ := H5V.out WW hSw; go_simp; try with_reducible rfl
        try simp only [Act.put, List.setIfInBounds_toArray, List.set_cons_zero, List.set_cons_succ]
        refine one_step (i := 5) (by kernel_rfl) rfl (fun K hK => ?_)
        go_simp
        go_at_call 12
        go_loud (refine (HPA.out _ (by repeat (first | exact Below.refl _ _ | apply bdrew))).mono ?_)
        first
          | (intro e V8 he hI8 hb8; subst he)
          | rintro e V8 ⟨rfl, hI8, hb8⟩
        have HB15 : Below V2.heap.size wr V8 := (show Below V2.heap.size wr _ from by repeat (first | exact Below.refl _ _ | apply bdrew)).trans hb8
        have HBW8 := Aside0.mk (HBW.out.trans (HB15.mono (by have := HSZ.out; omega)))
        clear hb8
        refine hK.out _ _ ?_ (fun hHeld => ?_)
        · (repeat (first | exact HB16 | exact HB15 | exact HBr | apply bdrew))
        clear hK K
        try simp only [Act.put, List.setIfInBounds_toArray, List.set_cons_zero, List.set_cons_succ]
        refine one_step (i := 11) (by kernel_rfl) rfl (fun K hK => ?_)
        go_simp
        go_at_call 13
        go_loud (refine (HRA.out V8 _ hI8.out (by repeat (first | exact Below.refl _ _ | apply bdrew)) (by repeat (first | exact HBW8.out | apply bdrew))).mono ?_)
        first
          | (intro e V9 he hI9 hb9; subst he)
          | rintro e V9 ⟨rfl, hI9, hb9⟩
        have HB16 : Below V2.heap.size wr V9 := HB15.trans ((show Below V2.heap.size V8 _ from by repeat (first | exact Below.refl _ _ | apply bdrew)).trans hb9)
        have HI10 : Aside0 (HI V2 V9 k bv br us vs (i + 1) (i + 1) i) := ⟨hI9.out⟩
        have HB10 : Aside0 (Below w.heap.size w V9) := ⟨HBW.out.trans (HB16.mono (by have := HSZ.out; omega))⟩
        clear hb9 hI9
        refine hK.out _ _ ?_ (fun hHeld => ?_)
        · (repeat (first | exact HB16 | exact HB15 | exact HBr | apply bdrew))
        clear hK K
        try simp only [Act.put, List.setIfInBounds_toArray, List.set_cons_zero, List.set_cons_succ]
        refine take_in (i := 12) (v := .bool false) rfl (by kernel_rfl) (by kernel_rfl) (by kernel_rfl) (fun _ _ _ h => h) (by rfl) ?hy12a (by assumption) ?_
        case hy12a => intro WW hSw; have hh := hEn; go_simp; try with_reducible rfl
        try simp only [Act.put, List.setIfInBounds_toArray, List.set_cons_zero, List.set_cons_succ]
        refine wpAnyH_done (by kernel_rfl) ?_ _
        go_wp2
        clear hEn
        go_loopg [15] (up.length + 1) (fun gg s15 wx => ∃ q : Nat, q ≤ up.length ∧ up.length < gg + q ∧ s15 = .int .i64 q ∧ Aside0 (MutI V9 wx V1.heap.size ⟨uk, un, ub, uss, uA, up, uc⟩) ∧ Below w.heap.size w wx)
        case atStart =>
          refine ⟨0, by omega, by omega, rfl, ⟨KeptBut.refl _ _, fun h0 => ?_⟩, HB10.out⟩
          have hh := HUU.out
          have h9 := (cop_path HCO.out HI10.out.kept i (Nat.le_refl _) HIDX.out.1 (by rw [← hh]; exact h0)).1
          rw [← hh] at h9
          exact ⟨up, rfl, h9⟩
        case round =>
          obtain ⟨q, hq, hgq, rfl, HM, HBX⟩ := hrel
          have hq0 : (0 : Int) ≤ (q : Int) := by omega
          have hpl9 : (up.length : Int) ≤ 9223372036854775807 := by have := HPL.out; omega
          obtain ⟨ad3, e3, h53, hlt3, hsep3⟩ := cop_row HCO.out HI10.out.kept i HIDX.out.1
          cases e3
          rw [← HUU.out] at h53
          have h5x : Holds5 wr (ad2.add (i * 5)) ⟨uk, un, ub, uss, uA, up, uc⟩ := holds5_blk h53 (HM.out.1.block _ h53.lt (fun y => by
            obtain ⟨_, a, ea, eb⟩ := y
            exact hsep3 i HIDX.out.1 a (by rw [← HUU.out]; exact ea) eb))
          obtain ⟨hb5, hs5, c0, c1, c2, c3, c4⟩ := h5x
          simp only at c4
          have hiu : (i : Int) < (n : Int) := by have := HIDX.out.1; have := HLU.out; omega
          clear c0 c1 c2 c3 h53 hsep3 hlt3
          by_cases hqm : q < up.length
          · have hqmi : (q : Int) < (up.length : Int) := by omega
            obtain ⟨p', hp', hrow⟩ := HM.out.2 (by simp only; omega)
            simp only at hp' hrow
            obtain ⟨g, rfl, hg1⟩ := row_zero hrow (by omega)
            have hcl := World.ownsRow.cellAt hrow q (by omega)
            have hcl1 : wr.cell? ⟨g, q, none⟩ = some (.int .i64 (p'.getD q 0)) := by
              rw [hcl]
              simp [numCells, List.getD, show q < p'.length by omega]
            have hfz := World.ownsRow.frozenAt hrow q
            have hadd := add_0 g q
            have HMM := Aside0.mk (And.intro hp' hrow)
            have HGQ := Aside0.mk (And.intro hq hgq)
            generalize p'.getD q 0 = x at hcl1
            obtain ⟨pl, hpl⟩ : ∃ pl, pl = up.length := ⟨_, rfl⟩
            have HPP := Aside0.mk hpl
            rw [← hpl] at c4 hqmi hpl9
            clear hcl hrow hp' hq hgq hpl
            go_wp2
            go_roundg (gk - 1)
            case measure => have := HGQ.out; have := HPP.out; omega
            case rel => exact ⟨q + 1, by have := HPP.out; omega, by have := HGQ.out; omega, by go_num, ⟨HM.out.1.trans (keptBut_set _ ⟨g, q, none⟩ _ ⟨by simp only; have := HPP.out; omega, ⟨g, 0, none⟩, rfl, rfl⟩) (fun _ _ h => h), fun _ => ⟨p'.set q (wrap64 (x + 1)), by rw [List.length_set]; exact HMM.out.1, by rw [← numCells_set]; exact (World.ownsRow.stored HMM.out.2 q _).1⟩⟩, below_set HBX (p := ⟨g, q, none⟩) (by have := HSZ.out; show w.heap.size ≤ g; omega) _⟩
          · obtain rfl : q = up.length := by omega
            have hqq : ¬ (up.length : Int) < (up.length : Int) := by omega
            have HI11 := Aside0.mk (HI10.out.mutate (W' := wr) HIDX.out.1 (B1 := V1.heap.size) (by rw [← HUU.out]; exact fun h0 => (HU0.out h0).2) (fun v hv a e h0 => by have := readsI_lt (e ▸ HR.out.path v hv) h0; have := HSZ.out; omega) (by rw [← HUU.out]; exact HM.out.1))
            clear hq hgq
            go_wp2
            go_roundg (G - 1)
            case measure => have := HG.out; have := HGE.out; omega
            case rel => exact ⟨i + 1, by have := HG.out; have := HIDX.out; have := HLU.out; omega, by have := HG.out; omega, by go_num, HI11.out, HBX⟩
      · obtain rfl : i = n := by omega
        have hii : ¬ (i : Int) < (i : Int) := by omega
        have hsm := hI.same HK.out HE.out HQ.out HCO.out.own.num (by have := HNN.out; omega)
        clear hI
        go_wp2_with (go_at_call 11; go_loud (refine hsm.mono ?_))
        first
          | (intro e V9 he hb9; subst he)
          | rintro e V9 ⟨rfl, hb9⟩
        have HB9 := below_then HB hb9
        clear hsm hb9
        go_wp2
        go_ret
        exact ⟨rfl, HB9⟩
  · have HK := Aside0.mk hk
    have hn3 := new_none k V2 (by omega)
    have hn4 := rnew_none k V2 hk
    have hTK : Aside0 (¬ Takes k vs ∧ ¬ Takes k us) := ⟨fun t => hk t.1, fun t => hk t.1⟩
    clear hk
    go_wp2_with (go_at_call 7; go_loud (refine hn3.mono ?_); (intro e W' hWE; obtain ⟨rfl, hWe⟩ := hWE; obtain rfl := hWe.symm; clear hWe))
    clear hn3
    go_wp2_with (go_at_call 8; go_loud (refine hn4.mono ?_); (intro e W' hWE; obtain ⟨rfl, hWe⟩ := hWE; obtain rfl := hWe.symm; clear hWe))
    clear hn4
    have HCL := Aside0.mk (pofP k A2 us c2 F V2 HFU.out HRD2.out (by have := HLU.out; omega))
    rw [HLU.out] at HCL
    go_wp2_with (go_at_call 9; go_loud (refine HCL.out.mono ?_))
    first
      | (intro e Y5 h; have h : (∃ (po : Option Addr), _) ∧ _ := h; obtain ⟨⟨po, he, hU⟩, hb5⟩ := h; subst he)
      | (intro e Y5 po he hU hb5; subst he)
    have HB5 := below_then HB2 hb5
    clear HCL hb5
    have HCL := Aside0.mk (rofP k A vs c F Y5 HF.out (HR.out.below HB5) (Utf8Tabs_below HS.out.2 HB5) HS.out.1 (by have := HNN.out; omega))
    rw [← HE.out] at HCL
    go_wp2_with (go_at_call 10; go_loud (refine HCL.out.mono ?_))
    first
      | (intro e V6 h; have h : (∃ (po : Option Addr), _) ∧ _ := h; obtain ⟨⟨qo, he, hU2⟩, hb6⟩ := h; subst he)
      | (intro e V6 qo he hU2 hb6; subst he)
    have HB6 := below_then HB5 hb6
    have hsm := same_po k po qo us vs V6 (hU.out.below hb6) hU2.out HQ.out (by have := HNN.out; omega)
    clear HCL hb6 HB5 hU hU2
    go_wp2_with (go_at_call 11; go_loud (refine hsm.mono ?_))
    rintro e V7 ⟨rfl, hb7⟩
    have HB7 := below_then HB6 hb7
    have hFF : (F != F) = false := by simp
    have hFE : (F == F) = true := by simp
    clear hsm hb7 HB6
    go_wp2
    go_ret
    exact ⟨rfl, HB7⟩
end Go.Proofs.YtbdbcbpcekpcoaaDoor
