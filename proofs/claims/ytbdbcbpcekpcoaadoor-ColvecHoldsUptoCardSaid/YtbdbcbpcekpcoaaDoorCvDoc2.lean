/- Gather of any places. The document's Gather. The document's Concat; the program's of no column, of another kind. -/
import Derived.Test.YtbdbcbpcekpcoaaDoorCvDoc
set_option linter.unusedVariables false
set_option linter.unusedSimpArgs false
namespace Go.Proofs.YtbdbcbpcekpcoaaDoor
open Go.RowKit

open Go.RowKit Go.Maps

/-- How many of the first places are places. -/
structure Lead (pl : List Int) (N Q : Nat) : Prop where
  le : Q ≤ pl.length
  ok : ∀ i, i < Q → 0 ≤ pl.getD i 0 ∧ pl.getD i 0 < (N : Int)
  out : Q < pl.length → ¬ (0 ≤ pl.getD Q 0 ∧ pl.getD Q 0 < (N : Int))
theorem lead : ∀ (pl : List Int) (N : Nat), ∃ Q, Lead pl N Q
  | [], N => ⟨0, by simp, fun i h => absurd h (by simp), fun h => absurd h (by simp)⟩
  | x :: r, N => by
    by_cases hx : 0 ≤ x ∧ x < (N : Int)
    · obtain ⟨Q, h1, h2, h3⟩ := lead r N
      refine ⟨Q + 1, by simp; omega, fun i hi => ?_, fun h => h3 (by simpa using h)⟩
      cases i with
      | zero => exact hx
      | succ i => exact h2 i (by omega)
    · exact ⟨0, by simp, fun i h => absurd h (by simp), fun _ => hx⟩
/-- What Gather yields. -/
def GatR (k : Int) (vs : List V5) (pl : List Int) (Q : Nat) (w : World) (e : Ending) (w' : World) : Prop := ((Q = pl.length ∧ ∃ us, e = .returned (.tuple #[.pointer (some ⟨w.heap.size + 1, 0, none⟩), .int .i64 0]) ∧ EqR us (pl.map fun i => vs.getD i.toNat V5.zero) ∧ VecIs w' (fun j => w.heap.size ≤ j) (w.heap.size + 1) (ofL k us) ∧ (∀ v ∈ us, fitsV k v = true) ∧ (∀ v ∈ us, -9223372036854775808 ≤ v.n ∧ v.n ≤ 9223372036854775807)) ∨ (Q < pl.length ∧ e = .returned (.tuple #[.pointer none, .int .i64 32]))) ∧ Below w.heap.size w w'
set_option maxRecDepth 100000 in
set_option maxHeartbeats 6400000 in
theorem gather_any (k : Int) (hk : 1 ≤ k ∧ k ≤ 6) (F : Nat → Prop) (b : Nat) (S : VS) (vs : List V5) (w : World) (hv : VecIs w F b S) (hR : Rep k S vs) (hwf : WF S) (hf : ∀ v ∈ vs, fitsV k v = true) (hnum : ∀ v ∈ vs, -9223372036854775808 ≤ v.n ∧ v.n ≤ 9223372036854775807) (hN : vs.length ≤ 100000000000)
    (A : Option Addr) (pl : List Int) (c : Nat) (hr : ReadsI w A pl) (Q : Nat) (hin : Lead pl vs.length Q) (hpl : pl.length ≤ 100000000000) :
    Calls Tryd.prog 14 #[.pointer (some ⟨b, 0, none⟩), .slice A pl.length c] w fun e w' => GatR k vs pl Q w e w' := by
  have HAT : Aside0 (∀ W (i : Nat), Below w.heap.size w W → i < vs.length → Calls Tryd.prog 21 #[.pointer (some ⟨b, 0, none⟩), .int .i64 (i : Int)] W fun e w' => ∃ u : V5, e = .returned u.val ∧ Eq5 u (vs.getD i V5.zero) ∧ ReadsI w' u.A u.p ∧ (∀ a, u.A = some a → W.heap.size ≤ a.block) ∧ Below W.heap.size W w') := ⟨fun W i hb hi => at_any k hk F b S vs i W (vecIs_below hv hb) hR hwf hf hi hN⟩
  have HNUM : Aside0 (∀ i, i < vs.length → fitsV k (vs.getD i V5.zero) = true ∧ -9223372036854775808 ≤ (vs.getD i V5.zero).n ∧ (vs.getD i V5.zero).n ≤ 9223372036854775807) := ⟨fun i hi => by
    have hm : vs.getD i V5.zero ∈ vs := by rw [List.getD_eq_getElem?_getD, List.getElem?_eq_getElem hi]; exact List.getElem_mem _
    exact ⟨hf _ hm, hnum _ hm⟩⟩
  have hlen : S.nl.length = vs.length := by rw [hR.nulls, List.length_map]
  have hks := hR.kind
  have hn := new_any k w hk
  obtain ⟨m, hm⟩ : ∃ m, m = pl.length := ⟨_, rfl⟩
  have HM := Aside0.mk hm
  have HR := Aside0.mk hr
  have HIN := Aside0.mk hin
  have HKK := Aside0.mk hk
  rw [← hm] at hpl ⊢
  have hQm := hin.le
  rw [← hm] at hQm
  have hN9 : (m : Int) ≤ 100000000000 := by omega
  obtain ⟨nv, bv, iv, dv, hvv, mm, hV⟩ := hv
  have hbl := hV.box.lt
  have hc := hV.box.cells
  have hfz := hV.box.free
  rw [hlen, hks] at hc
  obtain ⟨N, hNN⟩ : ∃ N, N = vs.length := ⟨_, rfl⟩
  rw [← hNN] at hc hN
  have HNL := Aside0.mk hNN
  have HC1 : Aside0 (∀ W, Below w.heap.size w W → W.cell? ⟨b, 1, none⟩ = some (.int .i64 (N : Int))) := ⟨fun W h => (h.cell hbl).trans (hc 1)⟩
  clear hV hR hwf hf hnum hlen hks hm hr hin hk hNN
  go_enter Tryd.func14, Tryd.ntmps14
  go_wp2_with (go_at_call 7; go_loud (refine hn.mono ?_))
  first
    | (intro e W1 he hV1 hb1; subst he)
    | rintro e W1 ⟨rfl, hV1, hb1⟩
  clear hn hc hfz
  go_wp2
  go_loopg [16] (m + 1) (fun gg s16 wr => ∃ (j : Nat) (us : List V5), j ≤ Q ∧ m < gg + j ∧ s16 = .int .i64 j ∧ us.length = j ∧ Aside0 (GatE vs pl us) ∧ Aside0 (∀ v ∈ us, fitsV k v = true) ∧ Aside0 (∀ v ∈ us, -9223372036854775808 ≤ v.n ∧ v.n ≤ 9223372036854775807) ∧ VecIs wr (fun i => w.heap.size ≤ i) (w.heap.size + 1) (ofL k us) ∧ Below w.heap.size w wr)
  case atStart => exact ⟨0, [], by omega, by omega, rfl, rfl, ⟨fun i hi => absurd hi (by simp)⟩, ⟨fun u hu => by cases hu⟩, ⟨fun u hu => by cases hu⟩, hV1, hb1⟩
  case round =>
    obtain ⟨j, us, hj, hg, rfl, hul, HE, HF, HNU, hVr, HB⟩ := hrel
    clear hV1 hb1
    have hj0 : (0 : Int) ≤ (j : Int) := by omega
    by_cases hlq : j < Q
    · have hlt : j < m := by omega
      have hlti : (j : Int) < (m : Int) := by omega
      obtain ⟨ad, rfl, hx⟩ := (HR.out.below HB).at_ j (by have := HM.out; omega)
      have hxin := HIN.out.ok j hlq
      obtain ⟨q, hq⟩ : ∃ q : Nat, pl.getD j 0 = (q : Int) := ⟨(pl.getD j 0).toNat, by omega⟩
      rw [hq] at hx hxin
      have hqN : q < vs.length := by omega
      have hqNi : (q : Int) < (N : Int) := by have := HNL.out; omega
      have hq0 : (0 : Int) ≤ (q : Int) := by omega
      have hN8 : (N : Int) ≤ 100000000000 := by omega
      have hat := HAT.out wr q HB hqN
      have hcN := HC1.out wr HB
      have HQ := Aside0.mk (And.intro hq hqN)
      have HO := Aside0.mk (And.intro hVr (And.intro hul HB))
      have HG := Aside0.mk (And.intro hlq (And.intro hj hg))
      clear hVr hul HB hq hqN hxin hj hg hlq
      go_wp2_with (go_at_call 21; go_loud (refine hat.mono ?_))
      intro e W3 u he he5 hrd hbk hb3
      subst he
      rw [← List.getD_eq_getElem?_getD] at he5
      obtain ⟨hVr, hul, HB⟩ := HO.out
      have hnm := HNUM.out q HQ.out.2
      have hfit := fits5 he5 hnm.1
      have hB3 := below_then HB hb3
      have hkk := ofL_k k us
      have hwf : WF (ofL k us) := wf_ofL k HKK.out _ HF.out
      have hnl : (ofL k us).nl.length ≤ room k := by rw [ofL_nl, List.length_map]; have := room_ge k; omega
      have hcall := appOk_any k HKK.out u (fun i => w.heap.size ≤ i) (w.heap.size + 1) (ofL k us) W3 (vecIs_below hVr hb3) hkk hwf hnl hrd
      have hst : stepV (ofL k us) u = ofL k (us ++ [u]) := by rw [stepV, hkk, if_pos hfit, ofL_snoc2]
      have her : errV k u = 0 := if_pos hfit
      rw [hst, her] at hcall
      have HE2 : Aside0 (GatE vs pl (us ++ [u])) := ⟨gatE_snoc HE.out (by rw [hul, HQ.out.1]; exact he5)⟩
      have HF2 : Aside0 (∀ v ∈ us ++ [u], fitsV k v = true) := ⟨all_snoc HF.out hfit⟩
      have HNU2 : Aside0 (∀ v ∈ us ++ [u], -9223372036854775808 ≤ v.n ∧ v.n ≤ 9223372036854775807) := ⟨all_snoc (p := fun v => -9223372036854775808 ≤ v.n ∧ v.n ≤ 9223372036854775807) HNU.out (by rw [he5.2.1]; exact hnm.2)⟩
      have HLL : Aside0 ((us ++ [u]).length = j + 1) := ⟨by rw [List.length_append, hul]; rfl⟩
      have HCALL := Aside0.mk hcall
      have HWM := Aside0.mk hB3
      generalize us ++ [u] = us2 at HE2 HF2 HNU2 HLL HCALL
      clear hcall hB3 hVr hul HB hnm hfit hkk hwf hnl hst her he5 hrd hbk hb3 hat HE HF HNU HO
      obtain ⟨uk, un, ub, us5, uA, up, uc⟩ := u
      unfold V5.val at HCALL ⊢
      go_wp2_with (go_at_call 12; go_loud (refine HCALL.out.mono ?_))
      first
        | (intro e W2 he hV2 hk2; subst he)
        | rintro e W2 ⟨rfl, hV2, hk2⟩
      go_wp2
      go_roundg (gk - 1)
      case measure => have := HG.out; omega
      case rel => exact ⟨j + 1, us2, by have := HG.out; omega, by have := HG.out; omega, by go_num, HLL.out, HE2, HF2, HNU2, vecIs_mono hV2 (fun i hi => hi.elim (fun h => h) (fun h => Nat.le_trans HWM.out.size h)), HWM.out.trans (hk2.below (fun i hi => hi) (HWM.out.size))⟩
    · obtain rfl : j = Q := by omega
      by_cases hjm : j = m
      · subst hjm
        have hjj : ¬ (j : Int) < (j : Int) := by omega
        go_wp2
        go_ret2
        unfold GatR
        exact ⟨.inl ⟨HM.out, us, rfl, gatE_row HE.out (by have := HM.out; omega), hVr, HF.out, HNU.out⟩, HB⟩
      · have hlt : j < m := by omega
        have hlti : (j : Int) < (m : Int) := by omega
        obtain ⟨ad, rfl, hx⟩ := (HR.out.below HB).at_ j (by have := HM.out; omega)
        have hxo := HIN.out.out (by have := HM.out; omega)
        have hcN := HC1.out wr HB
        rw [← HNL.out] at hxo
        generalize pl.getD j 0 = x at hx hxo
        by_cases hx0 : x < 0
        · clear hxo hj hg hjm hul hlq hVr
          go_wp2
          go_ret2
          unfold GatR
          exact ⟨.inr ⟨by have := HM.out; omega, rfl⟩, HB⟩
        · have hxN : (N : Int) ≤ x := by omega
          have hx1 : 0 ≤ x := by omega
          have hx2 : ¬ x < (N : Int) := by omega
          clear hxo hj hg hjm hul hlq hVr
          go_wp2
          go_ret2
          unfold GatR
          exact ⟨.inr ⟨by have := HM.out; omega, rfl⟩, HB⟩
open Go.RowKit Go.Maps

/-- What the document's Gather yields. -/
def RGatR (k : Int) (us : List V5) (pl : List Int) (Q : Nat) (w : World) (e : Ending) (w' : World) : Prop :=
  ((Q = pl.length ∧ e = .returned (.tuple #[.pointer (some ⟨w.heap.size, 0, none⟩), .int .i64 0]) ∧ ∃ rv, RV w' w.heap.size k w.heap.size (pl.map fun i => us.getD i.toNat V5.zero) rv) ∨ (Q < pl.length ∧ e = .returned (.tuple #[.pointer none, .int .i64 32]))) ∧ Below w.heap.size w w'
theorem map_take_snoc (f : Int → V5) (pl : List Int) (j : Nat) (h : j < pl.length) : (pl.take (j + 1)).map f = (pl.take j).map f ++ [f (pl.getD j 0)] := by
  rw [List.take_add_one, List.getElem?_eq_getElem h, List.map_append, List.getD_eq_getElem?_getD, List.getElem?_eq_getElem h]
  rfl
/-- A column of the document, one value on. -/
theorem rv_store {W5 W10 : World} {B : Nat} {k : Int} {rb : Nat} {ts : List V5} {v : V5} {A6 : Option Addr} {c6 : Nat} {x : Value} (hW10 : W10 = W5.setCell ⟨rb, 1, none⟩ (.slice A6 (ts ++ [v]).length c6)) (hO : OwnV W5 B (.slice A6 (ts ++ [v]).length c6) (ts ++ [v])) (hbx : RBox W5 rb #[.int .i64 k, x]) (hat : B ≤ rb) (hne : (Value.slice A6 (ts ++ [v]).length c6).ownBlock ≠ some rb)
    (hold : ∀ u ∈ ts ++ [v], ∀ a, u.A = some a → 0 < u.p.length → a.block < B) : RV W10 B k rb (ts ++ [v]) (.slice A6 (ts ++ [v]).length c6) := by
  subst hW10
  have hoth : ∀ j, j ≠ rb → (W5.setCell ⟨rb, 1, none⟩ (.slice A6 (ts ++ [v]).length c6)).heap[j]? = W5.heap[j]? := fun j hj => heap_setCell_other _ _ _ _ hj
  exact ⟨hbx.put 1 _, ownV_at hO (fun j hj e => hoth j (by
    rcases e with e | e
    · intro h
      subst h
      exact hne e
    · omega)) hold (by have := hbx.lt; omega), hat, hne, hold⟩
set_option maxRecDepth 100000 in
set_option maxHeartbeats 6400000 in
theorem rgather_any (k : Int) (rb : Nat) (A : Option Addr) (c : Nat) (us : List V5) (w : World) (hv : RVec w k rb A c us) (hN : us.length ≤ 100000000000) (PA : Option Addr) (pl : List Int) (d : Nat) (hr : ReadsI w PA pl) (Q : Nat) (hin : Lead pl us.length Q) (hpl : pl.length ≤ 100000000000) :
    Calls Tryd.prog 15 #[.pointer (some ⟨rb, 0, none⟩), .slice PA pl.length d] w fun e w' => RGatR k us pl Q w e w' := by
  obtain ⟨m, hm⟩ : ∃ m, m = pl.length := ⟨_, rfl⟩
  obtain ⟨N, hNN⟩ : ∃ N, N = us.length := ⟨_, rfl⟩
  have HM := Aside0.mk (And.intro hm hNN)
  have HR := Aside0.mk hr
  have HIN := Aside0.mk hin
  have HV := Aside0.mk hv
  have hbw := hv.box.lt
  have hc := hv.box.cells
  have hf := hv.box.free
  have HVB : Aside0 (∀ WW, Below w.heap.size w WW → ∀ i, WW.cell? ⟨rb, i, none⟩ = (#[.int .i64 k, .slice A N c] : Array Value)[i]?) := ⟨fun WW h => by rw [hNN]; exact (hv.box.at_ (h.block _ hbw)).cells⟩
  have hQm := hin.le
  rw [← hm] at hpl hQm ⊢
  rw [← hNN] at hN hc
  have hm9 : (m : Int) ≤ 100000000000 := by omega
  have hN9 : (N : Int) ≤ 100000000000 := by omega
  obtain ⟨W1, hW1⟩ : ∃ W1, W1 = w.alloc (.cells #[.int .i64 k, .slice none 0 0] 56) := ⟨_, rfl⟩
  have hV1 : RV W1 w.heap.size k w.heap.size [] (.slice none 0 0) := by
    rw [hW1]
    exact ⟨RBox.new w _, ownV_nil _ _, Nat.le_refl _, by simp [Value.ownBlock], fun u hu => by cases hu⟩
  have hb1 : Below w.heap.size w W1 := by rw [hW1]; exact below_more (Below.refl _ _) _
  clear hv hr hin hm hNN
  go_enter Tryd.func15, Tryd.ntmps15
  go_upto_region 2 with (fail)
  rw [← hW1]
  clear hW1 hc hf
  go_wp2
  go_loopg [7] (m + 1) (fun gg s7 wr => ∃ j : Nat, j ≤ Q ∧ m < gg + j ∧ s7 = .int .i64 j ∧ (∃ rv, RV wr w.heap.size k w.heap.size ((pl.take j).map fun i => us.getD i.toNat V5.zero) rv) ∧ Below w.heap.size w wr)
  case atStart => exact ⟨0, by omega, by omega, rfl, ⟨_, hV1⟩, hb1⟩
  case round =>
    obtain ⟨j, hj, hg, rfl, ⟨rv, hV⟩, HB⟩ := hrel
    clear hV1 hb1
    have hj0 : (0 : Int) ≤ (j : Int) := by omega
    by_cases hjm : j = m
    · obtain rfl : Q = j := by omega
      have hjj : ¬ (Q : Int) < (m : Int) := by omega
      have e : pl.take Q = pl := List.take_of_length_le (by have := HM.out; omega)
      rw [e] at hV
      go_wp2
      go_ret2
      unfold RGatR
      exact ⟨.inl ⟨by have := HM.out; omega, rfl, ⟨rv, hV⟩⟩, HB⟩
    · have hlt : j < m := by omega
      have hlti : (j : Int) < (m : Int) := by omega
      obtain ⟨ad, rfl, hx⟩ := HR.out.at_ j (by have := HM.out; omega)
      have hxl := World.block_lt_of_cell? w _ hx
      have HX : Aside0 (∀ WW, Below w.heap.size w WW → WW.cell? (ad.add j) = some (.int .i64 (pl.getD j 0))) := ⟨fun WW h => (h.cell hxl).trans hx⟩
      have HBX := Aside0.mk HB
      have hin1 : j < Q → 0 ≤ pl.getD j 0 ∧ pl.getD j 0 < (N : Int) := fun h => by rw [HM.out.2]; exact HIN.out.ok j h
      have hin2 : ¬ j < Q → ¬ (0 ≤ pl.getD j 0 ∧ pl.getD j 0 < (N : Int)) := fun h => by
        obtain rfl : j = Q := by omega
        rw [HM.out.2]
        exact HIN.out.out (by have := HM.out; omega)
      have hmp := map_take_snoc (fun i => us.getD i.toNat V5.zero) pl j (by have := HM.out; omega)
      obtain ⟨x, hxe⟩ : ∃ x, x = pl.getD j 0 := ⟨_, rfl⟩
      rw [← hxe] at HX hin1 hin2 hmp
      have HG := Aside0.mk (And.intro hj hg)
      have HMP := Aside0.mk hmp
      clear hx hxl hxe hmp hj hg hjm
      by_cases hjQ : j < Q
      · obtain ⟨hx0, hx1⟩ := hin1 hjQ
        obtain ⟨q, rfl⟩ : ∃ q : Nat, x = (q : Int) := ⟨x.toNat, by omega⟩
        have hq0 : ¬ (q : Int) < 0 := by omega
        have hqN : q < us.length := by have := HM.out; omega
        have hqn : ¬ (N : Int) ≤ (q : Int) := by omega
        have HQ := Aside0.mk hjQ
        clear hin1 hin2 hjQ
        go_upto_region 5 with (fail)
        refine wp_region_held_drew (S := (fun WW => Below w.heap.size w WW)) (by kernel_rfl) ?_ (fun hHeld => ?_)
        · (repeat (first | exact HBX.out | apply bdrew))
        refine take_in (i := 0) (v := ?v0a) rfl (by kernel_rfl) (by kernel_rfl) (by kernel_rfl) (fun _ _ _ h => h) (by rfl) ?hy0a (by assumption) ?_
        case hy0a => intro WW hSw; (try dsimp only at hSw); go_simp; try with_reducible rfl
        try simp only [Act.put, List.setIfInBounds_toArray, List.set_cons_zero, List.set_cons_succ]
        refine take_in (i := 1) (v := ?v1a) rfl (by kernel_rfl) (by kernel_rfl) (by kernel_rfl) (fun _ _ _ h => h) (by rfl) ?hy1a (by assumption) ?_
        case hy1a => intro WW hSw; (try dsimp only at hSw); go_simp; try with_reducible rfl
        try simp only [Act.put, List.setIfInBounds_toArray, List.set_cons_zero, List.set_cons_succ]
        refine take_in (i := 2) (v := ?v2a) rfl (by kernel_rfl) (by kernel_rfl) (by kernel_rfl) (fun _ _ _ h => h) (by rfl) ?hy2a (by assumption) ?_
        case hy2a => intro WW hSw; (try dsimp only at hSw); go_simp; try with_reducible rfl
        try simp only [Act.put, List.setIfInBounds_toArray, List.set_cons_zero, List.set_cons_succ]
        refine take_in (i := 3) (v := .int .i64 (q : Int)) rfl (by kernel_rfl) (by kernel_rfl) (by kernel_rfl) (fun _ _ _ h => h) (by rfl) ?hy3a (by assumption) ?_
        case hy3a => intro WW hSw; have h1 := HX.out WW hSw; have h2 := HVB.out WW hSw; go_simp; try with_reducible rfl
        try simp only [Act.put, List.setIfInBounds_toArray, List.set_cons_zero, List.set_cons_succ]
        refine take_in (i := 4) (v := .bool false) rfl (by kernel_rfl) (by kernel_rfl) (by kernel_rfl) (fun _ _ _ h => h) (by rfl) ?hy4a (by assumption) ?_
        case hy4a => intro WW hSw; have hh := hq0; go_simp; try with_reducible rfl
        try simp only [Act.put, List.setIfInBounds_toArray, List.set_cons_zero, List.set_cons_succ]
        refine take_in (i := 5) (v := .bool false) rfl (by kernel_rfl) (by kernel_rfl) (by kernel_rfl) (fun _ _ _ h => h) (by rfl) ?hy5a (by assumption) ?_
        case hy5a => intro WW hSw; (try dsimp only at hSw); go_simp; try with_reducible rfl
        try simp only [Act.put, List.setIfInBounds_toArray, List.set_cons_zero, List.set_cons_succ]
        refine take_in (i := 6) (v := ?v6a) rfl (by kernel_rfl) (by kernel_rfl) (by kernel_rfl) (fun _ _ _ h => h) (by rfl) ?hy6a (by assumption) ?_
        case hy6a => intro WW hSw; (try dsimp only at hSw); go_simp; try with_reducible rfl
        try simp only [Act.put, List.setIfInBounds_toArray, List.set_cons_zero, List.set_cons_succ]
        refine take_in (i := 7) (v := ?v7a) rfl (by kernel_rfl) (by kernel_rfl) (by kernel_rfl) (fun _ _ _ h => h) (by rfl) ?hy7a (by assumption) ?_
        case hy7a => intro WW hSw; (try dsimp only at hSw); go_simp; try with_reducible rfl
        try simp only [Act.put, List.setIfInBounds_toArray, List.set_cons_zero, List.set_cons_succ]
        refine take_in (i := 8) (v := ?v8a) rfl (by kernel_rfl) (by kernel_rfl) (by kernel_rfl) (fun _ _ _ h => h) (by rfl) ?hy8a (by assumption) ?_
        case hy8a => intro WW hSw; (try dsimp only at hSw); go_simp; try with_reducible rfl
        try simp only [Act.put, List.setIfInBounds_toArray, List.set_cons_zero, List.set_cons_succ]
        refine take_in (i := 9) (v := .int .i64 (q : Int)) rfl (by kernel_rfl) (by kernel_rfl) (by kernel_rfl) (fun _ _ _ h => h) (by rfl) ?hy9a (by assumption) ?_
        case hy9a => intro WW hSw; have h1 := HX.out WW hSw; have h2 := HVB.out WW hSw; go_simp; try with_reducible rfl
        try simp only [Act.put, List.setIfInBounds_toArray, List.set_cons_zero, List.set_cons_succ]
        refine take_in (i := 10) (v := ?v10a) rfl (by kernel_rfl) (by kernel_rfl) (by kernel_rfl) (fun _ _ _ h => h) (by rfl) ?hy10a (by assumption) ?_
        case hy10a => intro WW hSw; (try dsimp only at hSw); go_simp; try with_reducible rfl
        try simp only [Act.put, List.setIfInBounds_toArray, List.set_cons_zero, List.set_cons_succ]
        refine take_in (i := 11) (v := ?v11a) rfl (by kernel_rfl) (by kernel_rfl) (by kernel_rfl) (fun _ _ _ h => h) (by rfl) ?hy11a (by assumption) ?_
        case hy11a => intro WW hSw; (try dsimp only at hSw); go_simp; try with_reducible rfl
        try simp only [Act.put, List.setIfInBounds_toArray, List.set_cons_zero, List.set_cons_succ]
        refine take_in (i := 12) (v := ?v12a) rfl (by kernel_rfl) (by kernel_rfl) (by kernel_rfl) (fun _ _ _ h => h) (by rfl) ?hy12a (by assumption) ?_
        case hy12a => intro WW hSw; (try dsimp only at hSw); go_simp; try with_reducible rfl
        try simp only [Act.put, List.setIfInBounds_toArray, List.set_cons_zero, List.set_cons_succ]
        refine take_in (i := 13) (v := .slice A N c) rfl (by kernel_rfl) (by kernel_rfl) (by kernel_rfl) (fun _ _ _ h => h) (by rfl) ?hy13a (by assumption) ?_
        case hy13a => intro WW hSw; have h1 := HX.out WW hSw; have h2 := HVB.out WW hSw; go_simp; try with_reducible rfl
        try simp only [Act.put, List.setIfInBounds_toArray, List.set_cons_zero, List.set_cons_succ]
        refine take_in (i := 14) (v := .int .i64 (N : Int)) rfl (by kernel_rfl) (by kernel_rfl) (by kernel_rfl) (fun _ _ _ h => h) (by rfl) ?hy14a (by assumption) ?_
        case hy14a => intro WW hSw; (try dsimp only at hSw); go_simp; try with_reducible rfl
        try simp only [Act.put, List.setIfInBounds_toArray, List.set_cons_zero, List.set_cons_succ]
        refine take_in (i := 15) (v := .bool false) rfl (by kernel_rfl) (by kernel_rfl) (by kernel_rfl) (fun _ _ _ h => h) (by rfl) ?hy15a (by assumption) ?_
        case hy15a => intro WW hSw; have hh := hqn; go_simp; try with_reducible rfl
        try simp only [Act.put, List.setIfInBounds_toArray, List.set_cons_zero, List.set_cons_succ]
        refine take_in (i := 16) (v := .bool false) rfl (by kernel_rfl) (by kernel_rfl) (by kernel_rfl) (fun _ _ _ h => h) (by rfl) ?hy16a (by assumption) ?_
        case hy16a => intro WW hSw; (try dsimp only at hSw); go_simp; try with_reducible rfl
        try simp only [Act.put, List.setIfInBounds_toArray, List.set_cons_zero, List.set_cons_succ]
        refine wpAnyH_done (by kernel_rfl) ?_ _
        go_upto_region 7 with (fail)
        obtain ⟨W6, hW6⟩ : ∃ W6, W6 = wr.drew := ⟨_, rfl⟩
        have HB6 : Below w.heap.size w W6 := by rw [hW6]; exact bdrew HBX.out
        obtain ⟨ts, hts⟩ : ∃ ts, ts = (pl.take j).map fun i => us.getD i.toNat V5.zero := ⟨_, rfl⟩
        rw [← hts] at hV HMP
        have HTS : Aside0 (ts.length ≤ 100000000000) := ⟨by rw [hts, List.length_map, List.length_take]; have := HM.out; omega⟩
        clear hts
        have HV6 : Aside0 (RV W6 w.heap.size k w.heap.size ts rv) := ⟨by rw [hW6]; exact hV.below (bdrew (Below.refl _ _))⟩
        obtain ⟨A5, c5, rfl, hrd5⟩ := hV.own.reads
        have hmem : us.getD q V5.zero ∈ us := by rw [List.getD_eq_getElem?_getD, List.getElem?_eq_getElem hqN]; exact List.getElem_mem _
        obtain ⟨ad2, rfl, hh⟩ := HV.out.rd.row q hqN
        have hpth := HV.out.rd.path _ hmem
        have hnm := HV.out.rd.num _ hmem
        have hmp2 := HMP.out
        rw [Int.toNat_natCast] at hmp2
        generalize us.getD q V5.zero = v at hh hpth hnm hmp2
        have HMP2 := Aside0.mk hmp2
        have hold : ∀ a, v.A = some a → 0 < v.p.length → a.block < w.heap.size := fun a e hp => readsI_lt (e ▸ hpth) hp
        obtain ⟨vk, vn, vb, vss, vA, vp, vc⟩ := v
        obtain ⟨hb, hsp, c0, c1, c2, c3, c4⟩ := hh
        simp only at c0 c1 c2 c3 c4 hpth hold hnm
        have H5 : Aside0 (∀ WW, Below w.heap.size w WW → WW.cell? (ad2.add (q * 5)) = some (.int .i64 vk) ∧ WW.cell? ⟨(ad2.add (q * 5)).block, (ad2.add (q * 5)).off + 1, none⟩ = some (.bool vb) ∧ WW.cell? ⟨(ad2.add (q * 5)).block, (ad2.add (q * 5)).off + 2, none⟩ = some (.int .i64 vn) ∧ WW.cell? ⟨(ad2.add (q * 5)).block, (ad2.add (q * 5)).off + 3, none⟩ = some (.string vss) ∧ WW.cell? ⟨(ad2.add (q * 5)).block, (ad2.add (q * 5)).off + 4, none⟩ = some (.slice vA vp.length vc)) := ⟨fun WW h =>
          ⟨(h.cell hb).trans c0, (h.cell (p := ⟨(ad2.add (q * 5)).block, (ad2.add (q * 5)).off + 1, none⟩) hb).trans c1, (h.cell (p := ⟨(ad2.add (q * 5)).block, (ad2.add (q * 5)).off + 2, none⟩) hb).trans c2, (h.cell (p := ⟨(ad2.add (q * 5)).block, (ad2.add (q * 5)).off + 3, none⟩) hb).trans c3, (h.cell (p := ⟨(ad2.add (q * 5)).block, (ad2.add (q * 5)).off + 4, none⟩) hb).trans c4⟩⟩
        have HP := Aside0.mk (And.intro hpth (And.intro hold hnm))
        clear hV hrd5 hmem hpth hnm hmp2 hold hb c0 c1 c2 c3 c4 HMP
        rw [← hW6]
        clear hW6
        refine wp_region_held_drew (S := (fun WW => Below w.heap.size w WW)) (by kernel_rfl) ?_ (fun hHeld => ?_)
        · (repeat (first | exact HB10 | exact HB5 | exact HB6 | apply bdrew | apply below_more))
        refine take_in (i := 0) (v := ?v0d) rfl (by kernel_rfl) (by kernel_rfl) (by kernel_rfl) (fun _ _ _ h => h) (by rfl) ?hy0d (by assumption) ?_
        case hy0d => intro WW hSw; (try dsimp only at hSw); go_simp; try with_reducible rfl
        try simp only [Act.put, List.setIfInBounds_toArray, List.set_cons_zero, List.set_cons_succ]
        refine take_in (i := 1) (v := ?v1d) rfl (by kernel_rfl) (by kernel_rfl) (by kernel_rfl) (fun _ _ _ h => h) (by rfl) ?hy1d (by assumption) ?_
        case hy1d => intro WW hSw; (try dsimp only at hSw); go_simp; try with_reducible rfl
        try simp only [Act.put, List.setIfInBounds_toArray, List.set_cons_zero, List.set_cons_succ]
        refine take_in (i := 2) (v := ?v2d) rfl (by kernel_rfl) (by kernel_rfl) (by kernel_rfl) (fun _ _ _ h => h) (by rfl) ?hy2d (by assumption) ?_
        case hy2d => intro WW hSw; (try dsimp only at hSw); go_simp; try with_reducible rfl
        try simp only [Act.put, List.setIfInBounds_toArray, List.set_cons_zero, List.set_cons_succ]
        refine take_in (i := 3) (v := ?v3d) rfl (by kernel_rfl) (by kernel_rfl) (by kernel_rfl) (fun _ _ _ h => h) (by rfl) ?hy3d (by assumption) ?_
        case hy3d => intro WW hSw; (try dsimp only at hSw); go_simp; try with_reducible rfl
        try simp only [Act.put, List.setIfInBounds_toArray, List.set_cons_zero, List.set_cons_succ]
        refine take_in (i := 5) (v := ?v5d) rfl (by kernel_rfl) (by kernel_rfl) (by kernel_rfl) (fun _ _ _ h => h) (by rfl) ?hy5d (by assumption) ?_
        case hy5d => intro WW hSw; (try dsimp only at hSw); go_simp; try with_reducible rfl
        try simp only [Act.put, List.setIfInBounds_toArray, List.set_cons_zero, List.set_cons_succ]
        refine take_in (i := 6) (v := ?v6d) rfl (by kernel_rfl) (by kernel_rfl) (by kernel_rfl) (fun _ _ _ h => h) (by rfl) ?hy6d (by assumption) ?_
        case hy6d => intro WW hSw; (try dsimp only at hSw); go_simp; try with_reducible rfl
        try simp only [Act.put, List.setIfInBounds_toArray, List.set_cons_zero, List.set_cons_succ]
        refine take_in (i := 7) (v := ?v7d) rfl (by kernel_rfl) (by kernel_rfl) (by kernel_rfl) (fun _ _ _ h => h) (by rfl) ?hy7d (by assumption) ?_
        case hy7d => intro WW hSw; (try dsimp only at hSw); go_simp; try with_reducible rfl
        try simp only [Act.put, List.setIfInBounds_toArray, List.set_cons_zero, List.set_cons_succ]
        refine take_in (i := 8) (v := .slice (some ad2) N c) rfl (by kernel_rfl) (by kernel_rfl) (by kernel_rfl) (fun _ _ _ h => h) (by rfl) ?hy8d (by assumption) ?_
        case hy8d => intro WW hSw; have h1 := HX.out WW hSw; have h2 := HVB.out WW hSw; go_simp; try with_reducible rfl
        try simp only [Act.put, List.setIfInBounds_toArray, List.set_cons_zero, List.set_cons_succ]
        refine take_in (i := 9) (v := ?v9d) rfl (by kernel_rfl) (by kernel_rfl) (by kernel_rfl) (fun _ _ _ h => h) (by rfl) ?hy9d (by assumption) ?_
        case hy9d => intro WW hSw; (try dsimp only at hSw); go_simp; try with_reducible rfl
        try simp only [Act.put, List.setIfInBounds_toArray, List.set_cons_zero, List.set_cons_succ]
        refine take_in (i := 10) (v := ?v10d) rfl (by kernel_rfl) (by kernel_rfl) (by kernel_rfl) (fun _ _ _ h => h) (by rfl) ?hy10d (by assumption) ?_
        case hy10d => intro WW hSw; (try dsimp only at hSw); go_simp; try with_reducible rfl
        try simp only [Act.put, List.setIfInBounds_toArray, List.set_cons_zero, List.set_cons_succ]
        refine take_in (i := 11) (v := ?v11d) rfl (by kernel_rfl) (by kernel_rfl) (by kernel_rfl) (fun _ _ _ h => h) (by rfl) ?hy11d (by assumption) ?_
        case hy11d => intro WW hSw; (try dsimp only at hSw); go_simp; try with_reducible rfl
        try simp only [Act.put, List.setIfInBounds_toArray, List.set_cons_zero, List.set_cons_succ]
        refine take_in (i := 12) (v := .int .i64 (q : Int)) rfl (by kernel_rfl) (by kernel_rfl) (by kernel_rfl) (fun _ _ _ h => h) (by rfl) ?hy12d (by assumption) ?_
        case hy12d => intro WW hSw; have h1 := HX.out WW hSw; have h2 := HVB.out WW hSw; go_simp; try with_reducible rfl
        try simp only [Act.put, List.setIfInBounds_toArray, List.set_cons_zero, List.set_cons_succ]
        refine take_in (i := 13) (v := ?v13d) rfl (by kernel_rfl) (by kernel_rfl) (by kernel_rfl) (fun _ _ _ h => h) (by rfl) ?hy13d (by assumption) ?_
        case hy13d => intro WW hSw; (try dsimp only at hSw); go_simp; try with_reducible rfl
        try simp only [Act.put, List.setIfInBounds_toArray, List.set_cons_zero, List.set_cons_succ]
        refine take_in (i := 14) (v := .agg #[.int .i64 vk, .bool vb, .int .i64 vn, .string vss, .slice vA vp.length vc]) rfl (by kernel_rfl) (by kernel_rfl) (by kernel_rfl) (fun _ _ _ h => h) (by rfl) ?hy14d (by assumption) ?_
        case hy14d => intro WW hSw; obtain ⟨k0, k1, k2, k3, k4⟩ := H5.out WW hSw; go_simp; try with_reducible rfl
        try simp only [Act.put, List.setIfInBounds_toArray, List.set_cons_zero, List.set_cons_succ]
        refine two_step (i := 4) (j := 15) (by kernel_rfl) rfl rfl (fun K hK => ?_) (fun K hK => ?_)
        · skip
          have hc4 := HV6.out.box.cells
          have hf4 := HV6.out.box.free
          have hc5 := rbox_more HV6.out.box
          go_simp
          clear hc4 hf4 hc5
          refine hK.out _ _ ?_ (fun hHeld => ?_)
          · (repeat (first | exact HB10 | exact HB5 | exact HB6 | apply bdrew | apply below_more))
          clear hK K
          try simp only [Act.put, List.setIfInBounds_toArray, List.set_cons_zero, List.set_cons_succ]
          refine one_step (i := 15) (by kernel_rfl) rfl (fun K hK => ?_)
          go_simp
          refine hK.out _ _ ?_ (fun hHeld => ?_)
          · (repeat (first | exact HB10 | exact HB5 | exact HB6 | apply bdrew | apply below_more))
          clear hK K
          try simp only [Act.put, List.setIfInBounds_toArray, List.set_cons_zero, List.set_cons_succ]
          refine one_step (i := 16) (by kernel_rfl) rfl (fun K hK => ?_)
          refine of_if (by rfl) ?_
          refine append_valsG (.tmp 41) (.tmp 52) rfl w.heap.size (.slice A5 ts.length c5) ts rfl ?howndp ?hbbdp (some ⟨W6.heap.size, 0, none⟩) [(⟨vk, vn, vb, vss, vA, vp, vc⟩ : V5)] 1 rfl ?hrddp ?hapdp (by have := HTS.out; simp; omega) ?_
          case howndp => exact HV6.out.own.below (by repeat (first | exact Below.refl _ _ | apply bdrew | apply below_more))
          case hbbdp => have := HV6.out.size; simp; omega
          case hrddp =>
            have h := readsV_new W6 (⟨vk, vn, vb, vss, vA, vp, vc⟩ : V5) (HP.out.1.below HB6) HP.out.2.2
            dsimp only at h
            exact h.below (by repeat (first | exact Below.refl _ _ | apply bdrew))
          case hapdp => intro u hu a e hp e2; simp at hu; subst hu; have h1 := HP.out.2.1 a e hp; have h2 := (HV6.out.own.row.lt a.block e2).1; omega
          intro v5 W5 hO5 hb5 hg5 hat5
          have HB5 : Below w.heap.size w W5 := (show Below w.heap.size w _ from by (repeat (first | exact HB6 | apply bdrew | apply below_more))).trans hb5
          have HAT : v5.ownBlock ≠ some w.heap.size := fun e => by
            rcases hat5 with h | h
            · rw [h] at e; exact HV6.out.ne e
            · rw [h] at e; have := HV6.out.box.lt; simp at e; omega
          have HBX5 : Aside0 (RBox W5 w.heap.size #[.int .i64 k, .slice A5 ts.length c5]) := ⟨HV6.out.box.at_ ((hg5.block w.heap.size (by have := HV6.out.box.lt; simp; omega) (fun e => HV6.out.ne e.symm)).trans (by first | exact heap_alloc_old W6 _ HV6.out.box.lt | rfl))⟩
          obtain ⟨A6, c6, rfl, hrd6⟩ := hO5.reads
          have HO5 := Aside0.mk (And.intro hO5 HAT)
          rw [List.length_append, List.length_cons, List.length_nil]
          clear hO5 hb5 hg5 hat5 hrd6 HAT
          refine hK.out _ _ ?_ (fun hHeld => ?_)
          · (repeat (first | exact HB10 | exact HB5 | exact HB6 | apply bdrew | apply below_more))
          clear hK K
          try simp only [Act.put, List.setIfInBounds_toArray, List.set_cons_zero, List.set_cons_succ]
          refine take_in (i := 17) (v := ?v17dp) rfl (by kernel_rfl) (by kernel_rfl) (by kernel_rfl) (fun _ _ _ h => h) (by rfl) ?hy17dp (by assumption) ?_
          case hy17dp => intro WW hSw; (try dsimp only at hSw); go_simp; try with_reducible rfl
          try simp only [Act.put, List.setIfInBounds_toArray, List.set_cons_zero, List.set_cons_succ]
          refine take_in (i := 18) (v := ?v18dp) rfl (by kernel_rfl) (by kernel_rfl) (by kernel_rfl) (fun _ _ _ h => h) (by rfl) ?hy18dp (by assumption) ?_
          case hy18dp => intro WW hSw; (try dsimp only at hSw); go_simp; try with_reducible rfl
          try simp only [Act.put, List.setIfInBounds_toArray, List.set_cons_zero, List.set_cons_succ]
          refine one_step (i := 19) (by kernel_rfl) rfl (fun K hK => ?_)
          have hc10 := HBX5.out.cells
          have hf10 := HBX5.out.free
          go_simp
          clear hc10 hf10
          obtain ⟨W10, hW10⟩ : ∃ W10, W10 = W5.setCell ⟨w.heap.size, 1, none⟩ (.slice A6 (ts.length + 1) c6) := ⟨_, rfl⟩
          rw [← hW10]
          have HB10 : Below w.heap.size w W10 := by rw [hW10]; exact below_set HB5 (p := ⟨w.heap.size, 1, none⟩) (Nat.le_refl _) _
          have HV10 := Aside0.mk (rv_store (W10 := W10) (v := (⟨vk, vn, vb, vss, vA, vp, vc⟩ : V5)) (by rw [List.length_append, List.length_cons, List.length_nil]; exact hW10) HO5.out.1 HBX5.out (Nat.le_refl _) HO5.out.2 (fun u hu a e hp => by
            rcases List.mem_append.1 hu with hu | hu
            · exact HV6.out.old u hu a e hp
            · simp at hu; subst hu; exact HP.out.2.1 a e hp))
          clear hW10
          refine hK.out _ _ ?_ (fun hHeld => ?_)
          · (repeat (first | exact HB10 | exact HB5 | exact HB6 | apply bdrew | apply below_more))
          clear hK K
          try simp only [Act.put, List.setIfInBounds_toArray, List.set_cons_zero, List.set_cons_succ]
          refine wpAnyH_done (by kernel_rfl) ?_ _
          obtain ⟨rvx, hrvx⟩ : ∃ rv, RV W10 w.heap.size k w.heap.size ((pl.take (j + 1)).map fun i => us.getD i.toNat V5.zero) rv := by rw [HMP2.out]; exact ⟨_, HV10.out⟩
          have HRX := Aside0.mk hrvx
          clear HV10 hrvx
          go_wp2
          go_roundg (gk - 1)
          case measure => have := HG.out; omega
          case rel => exact ⟨j + 1, by have := HQ.out; omega, by have := HG.out; omega, by go_num, ⟨_, HRX.out.below (by repeat (first | exact Below.refl _ _ | apply bdrew))⟩, (by repeat (first | exact HB10 | exact HB5 | exact HB6 | apply bdrew | apply below_more))⟩
        · skip
          go_simp
          refine hK.out _ _ ?_ (fun hHeld => ?_)
          · (repeat (first | exact HB10 | exact HB5 | exact HB6 | apply bdrew | apply below_more))
          clear hK K
          try simp only [Act.put, List.setIfInBounds_toArray, List.set_cons_zero, List.set_cons_succ]
          refine one_step (i := 4) (by kernel_rfl) rfl (fun K hK => ?_)
          have hc4 := HV6.out.box.cells
          have hf4 := HV6.out.box.free
          have hc5 := rbox_more HV6.out.box
          go_simp
          clear hc4 hf4 hc5
          refine hK.out _ _ ?_ (fun hHeld => ?_)
          · (repeat (first | exact HB10 | exact HB5 | exact HB6 | apply bdrew | apply below_more))
          clear hK K
          try simp only [Act.put, List.setIfInBounds_toArray, List.set_cons_zero, List.set_cons_succ]
          refine one_step (i := 16) (by kernel_rfl) rfl (fun K hK => ?_)
          refine of_if (by rfl) ?_
          refine append_valsG (.tmp 41) (.tmp 52) rfl w.heap.size (.slice A5 ts.length c5) ts rfl ?howndq ?hbbdq (some ⟨W6.heap.size, 0, none⟩) [(⟨vk, vn, vb, vss, vA, vp, vc⟩ : V5)] 1 rfl ?hrddq ?hapdq (by have := HTS.out; simp; omega) ?_
          case howndq => exact HV6.out.own.below (by repeat (first | exact Below.refl _ _ | apply bdrew | apply below_more))
          case hbbdq => have := HV6.out.size; simp; omega
          case hrddq =>
            have h := readsV_new W6 (⟨vk, vn, vb, vss, vA, vp, vc⟩ : V5) (HP.out.1.below HB6) HP.out.2.2
            dsimp only at h
            exact h.below (by repeat (first | exact Below.refl _ _ | apply bdrew))
          case hapdq => intro u hu a e hp e2; simp at hu; subst hu; have h1 := HP.out.2.1 a e hp; have h2 := (HV6.out.own.row.lt a.block e2).1; omega
          intro v5 W5 hO5 hb5 hg5 hat5
          have HB5 : Below w.heap.size w W5 := (show Below w.heap.size w _ from by (repeat (first | exact HB6 | apply bdrew | apply below_more))).trans hb5
          have HAT : v5.ownBlock ≠ some w.heap.size := fun e => by
            rcases hat5 with h | h
            · rw [h] at e; exact HV6.out.ne e
            · rw [h] at e; have := HV6.out.box.lt; simp at e; omega
          have HBX5 : Aside0 (RBox W5 w.heap.size #[.int .i64 k, .slice A5 ts.length c5]) := ⟨HV6.out.box.at_ ((hg5.block w.heap.size (by have := HV6.out.box.lt; simp; omega) (fun e => HV6.out.ne e.symm)).trans (by first | exact heap_alloc_old W6 _ HV6.out.box.lt | rfl))⟩
          obtain ⟨A6, c6, rfl, hrd6⟩ := hO5.reads
          have HO5 := Aside0.mk (And.intro hO5 HAT)
          rw [List.length_append, List.length_cons, List.length_nil]
          clear hO5 hb5 hg5 hat5 hrd6 HAT
          refine hK.out _ _ ?_ (fun hHeld => ?_)
          · (repeat (first | exact HB10 | exact HB5 | exact HB6 | apply bdrew | apply below_more))
          clear hK K
          try simp only [Act.put, List.setIfInBounds_toArray, List.set_cons_zero, List.set_cons_succ]
          refine take_in (i := 17) (v := ?v17dq) rfl (by kernel_rfl) (by kernel_rfl) (by kernel_rfl) (fun _ _ _ h => h) (by rfl) ?hy17dq (by assumption) ?_
          case hy17dq => intro WW hSw; (try dsimp only at hSw); go_simp; try with_reducible rfl
          try simp only [Act.put, List.setIfInBounds_toArray, List.set_cons_zero, List.set_cons_succ]
          refine take_in (i := 18) (v := ?v18dq) rfl (by kernel_rfl) (by kernel_rfl) (by kernel_rfl) (fun _ _ _ h => h) (by rfl) ?hy18dq (by assumption) ?_
          case hy18dq => intro WW hSw; (try dsimp only at hSw); go_simp; try with_reducible rfl
          try simp only [Act.put, List.setIfInBounds_toArray, List.set_cons_zero, List.set_cons_succ]
          refine one_step (i := 19) (by kernel_rfl) rfl (fun K hK => ?_)
          have hc10 := HBX5.out.cells
          have hf10 := HBX5.out.free
          go_simp
          clear hc10 hf10
          obtain ⟨W10, hW10⟩ : ∃ W10, W10 = W5.setCell ⟨w.heap.size, 1, none⟩ (.slice A6 (ts.length + 1) c6) := ⟨_, rfl⟩
          rw [← hW10]
          have HB10 : Below w.heap.size w W10 := by rw [hW10]; exact below_set HB5 (p := ⟨w.heap.size, 1, none⟩) (Nat.le_refl _) _
          have HV10 := Aside0.mk (rv_store (W10 := W10) (v := (⟨vk, vn, vb, vss, vA, vp, vc⟩ : V5)) (by rw [List.length_append, List.length_cons, List.length_nil]; exact hW10) HO5.out.1 HBX5.out (Nat.le_refl _) HO5.out.2 (fun u hu a e hp => by
            rcases List.mem_append.1 hu with hu | hu
            · exact HV6.out.old u hu a e hp
            · simp at hu; subst hu; exact HP.out.2.1 a e hp))
          clear hW10
          refine hK.out _ _ ?_ (fun hHeld => ?_)
          · (repeat (first | exact HB10 | exact HB5 | exact HB6 | apply bdrew | apply below_more))
          clear hK K
          try simp only [Act.put, List.setIfInBounds_toArray, List.set_cons_zero, List.set_cons_succ]
          refine wpAnyH_done (by kernel_rfl) ?_ _
          obtain ⟨rvx, hrvx⟩ : ∃ rv, RV W10 w.heap.size k w.heap.size ((pl.take (j + 1)).map fun i => us.getD i.toNat V5.zero) rv := by rw [HMP2.out]; exact ⟨_, HV10.out⟩
          have HRX := Aside0.mk hrvx
          clear HV10 hrvx
          go_wp2
          go_roundg (gk - 1)
          case measure => have := HG.out; omega
          case rel => exact ⟨j + 1, by have := HQ.out; omega, by have := HG.out; omega, by go_num, ⟨_, HRX.out.below (by repeat (first | exact Below.refl _ _ | apply bdrew))⟩, (by repeat (first | exact HB10 | exact HB5 | exact HB6 | apply bdrew | apply below_more))⟩
      · have hxo := hin2 hjQ
        have HQ := Aside0.mk hjQ
        clear hin1 hin2 hjQ
        by_cases hx0 : x < 0
        · clear hxo
          go_upto_region 5 with (fail)
          refine wp_region_held_drew (S := (fun WW => Below w.heap.size w WW)) (by kernel_rfl) ?_ (fun hHeld => ?_)
          · (repeat (first | exact HBX.out | apply bdrew))
          refine take_in (i := 0) (v := ?v0b) rfl (by kernel_rfl) (by kernel_rfl) (by kernel_rfl) (fun _ _ _ h => h) (by rfl) ?hy0b (by assumption) ?_
          case hy0b => intro WW hSw; (try dsimp only at hSw); go_simp; try with_reducible rfl
          try simp only [Act.put, List.setIfInBounds_toArray, List.set_cons_zero, List.set_cons_succ]
          refine take_in (i := 1) (v := ?v1b) rfl (by kernel_rfl) (by kernel_rfl) (by kernel_rfl) (fun _ _ _ h => h) (by rfl) ?hy1b (by assumption) ?_
          case hy1b => intro WW hSw; (try dsimp only at hSw); go_simp; try with_reducible rfl
          try simp only [Act.put, List.setIfInBounds_toArray, List.set_cons_zero, List.set_cons_succ]
          refine take_in (i := 2) (v := ?v2b) rfl (by kernel_rfl) (by kernel_rfl) (by kernel_rfl) (fun _ _ _ h => h) (by rfl) ?hy2b (by assumption) ?_
          case hy2b => intro WW hSw; (try dsimp only at hSw); go_simp; try with_reducible rfl
          try simp only [Act.put, List.setIfInBounds_toArray, List.set_cons_zero, List.set_cons_succ]
          refine take_in (i := 3) (v := .int .i64 x) rfl (by kernel_rfl) (by kernel_rfl) (by kernel_rfl) (fun _ _ _ h => h) (by rfl) ?hy3b (by assumption) ?_
          case hy3b => intro WW hSw; have h1 := HX.out WW hSw; have h2 := HVB.out WW hSw; go_simp; try with_reducible rfl
          try simp only [Act.put, List.setIfInBounds_toArray, List.set_cons_zero, List.set_cons_succ]
          refine take_in (i := 4) (v := .bool true) rfl (by kernel_rfl) (by kernel_rfl) (by kernel_rfl) (fun _ _ _ h => h) (by rfl) ?hy4b (by assumption) ?_
          case hy4b => intro WW hSw; have hh := hx0; go_simp; try with_reducible rfl
          try simp only [Act.put, List.setIfInBounds_toArray, List.set_cons_zero, List.set_cons_succ]
          refine take_in (i := 5) (v := .bool true) rfl (by kernel_rfl) (by kernel_rfl) (by kernel_rfl) (fun _ _ _ h => h) (by rfl) ?hy5b (by assumption) ?_
          case hy5b => intro WW hSw; (try dsimp only at hSw); go_simp; try with_reducible rfl
          try simp only [Act.put, List.setIfInBounds_toArray, List.set_cons_zero, List.set_cons_succ]
          refine take_out (i := 6) rfl (by kernel_rfl) (by kernel_rfl) (by kernel_rfl) (fun _ _ _ h => h) (by rfl) (by assumption) ?_
          try simp only [Act.put, List.setIfInBounds_toArray, List.set_cons_zero, List.set_cons_succ]
          refine take_out (i := 7) rfl (by kernel_rfl) (by kernel_rfl) (by kernel_rfl) (fun _ _ _ h => h) (by rfl) (by assumption) ?_
          try simp only [Act.put, List.setIfInBounds_toArray, List.set_cons_zero, List.set_cons_succ]
          refine take_out (i := 8) rfl (by kernel_rfl) (by kernel_rfl) (by kernel_rfl) (fun _ _ _ h => h) (by rfl) (by assumption) ?_
          try simp only [Act.put, List.setIfInBounds_toArray, List.set_cons_zero, List.set_cons_succ]
          refine take_out (i := 9) rfl (by kernel_rfl) (by kernel_rfl) (by kernel_rfl) (fun _ _ _ h => h) (by rfl) (by assumption) ?_
          try simp only [Act.put, List.setIfInBounds_toArray, List.set_cons_zero, List.set_cons_succ]
          refine take_out (i := 10) rfl (by kernel_rfl) (by kernel_rfl) (by kernel_rfl) (fun _ _ _ h => h) (by rfl) (by assumption) ?_
          try simp only [Act.put, List.setIfInBounds_toArray, List.set_cons_zero, List.set_cons_succ]
          refine take_out (i := 11) rfl (by kernel_rfl) (by kernel_rfl) (by kernel_rfl) (fun _ _ _ h => h) (by rfl) (by assumption) ?_
          try simp only [Act.put, List.setIfInBounds_toArray, List.set_cons_zero, List.set_cons_succ]
          refine take_out (i := 12) rfl (by kernel_rfl) (by kernel_rfl) (by kernel_rfl) (fun _ _ _ h => h) (by rfl) (by assumption) ?_
          try simp only [Act.put, List.setIfInBounds_toArray, List.set_cons_zero, List.set_cons_succ]
          refine take_out (i := 13) rfl (by kernel_rfl) (by kernel_rfl) (by kernel_rfl) (fun _ _ _ h => h) (by rfl) (by assumption) ?_
          try simp only [Act.put, List.setIfInBounds_toArray, List.set_cons_zero, List.set_cons_succ]
          refine take_out (i := 14) rfl (by kernel_rfl) (by kernel_rfl) (by kernel_rfl) (fun _ _ _ h => h) (by rfl) (by assumption) ?_
          try simp only [Act.put, List.setIfInBounds_toArray, List.set_cons_zero, List.set_cons_succ]
          refine take_out (i := 15) rfl (by kernel_rfl) (by kernel_rfl) (by kernel_rfl) (fun _ _ _ h => h) (by rfl) (by assumption) ?_
          try simp only [Act.put, List.setIfInBounds_toArray, List.set_cons_zero, List.set_cons_succ]
          refine take_in (i := 16) (v := .bool true) rfl (by kernel_rfl) (by kernel_rfl) (by kernel_rfl) (fun _ _ _ h => h) (by rfl) ?hy16b (by assumption) ?_
          case hy16b => intro WW hSw; (try dsimp only at hSw); go_simp; try with_reducible rfl
          try simp only [Act.put, List.setIfInBounds_toArray, List.set_cons_zero, List.set_cons_succ]
          refine wpAnyH_done (by kernel_rfl) ?_ _
          go_wp2
          go_ret2
          unfold RGatR
          exact ⟨.inr ⟨by have := HM.out; have := HQ.out; have := HG.out; omega, rfl⟩, by repeat (first | exact HBX.out | apply bdrew)⟩
        · have hxN : (N : Int) ≤ x := by omega
          clear hxo
          go_upto_region 5 with (fail)
          refine wp_region_held_drew (S := (fun WW => Below w.heap.size w WW)) (by kernel_rfl) ?_ (fun hHeld => ?_)
          · (repeat (first | exact HBX.out | apply bdrew))
          refine take_in (i := 0) (v := ?v0c) rfl (by kernel_rfl) (by kernel_rfl) (by kernel_rfl) (fun _ _ _ h => h) (by rfl) ?hy0c (by assumption) ?_
          case hy0c => intro WW hSw; (try dsimp only at hSw); go_simp; try with_reducible rfl
          try simp only [Act.put, List.setIfInBounds_toArray, List.set_cons_zero, List.set_cons_succ]
          refine take_in (i := 1) (v := ?v1c) rfl (by kernel_rfl) (by kernel_rfl) (by kernel_rfl) (fun _ _ _ h => h) (by rfl) ?hy1c (by assumption) ?_
          case hy1c => intro WW hSw; (try dsimp only at hSw); go_simp; try with_reducible rfl
          try simp only [Act.put, List.setIfInBounds_toArray, List.set_cons_zero, List.set_cons_succ]
          refine take_in (i := 2) (v := ?v2c) rfl (by kernel_rfl) (by kernel_rfl) (by kernel_rfl) (fun _ _ _ h => h) (by rfl) ?hy2c (by assumption) ?_
          case hy2c => intro WW hSw; (try dsimp only at hSw); go_simp; try with_reducible rfl
          try simp only [Act.put, List.setIfInBounds_toArray, List.set_cons_zero, List.set_cons_succ]
          refine take_in (i := 3) (v := .int .i64 x) rfl (by kernel_rfl) (by kernel_rfl) (by kernel_rfl) (fun _ _ _ h => h) (by rfl) ?hy3c (by assumption) ?_
          case hy3c => intro WW hSw; have h1 := HX.out WW hSw; have h2 := HVB.out WW hSw; go_simp; try with_reducible rfl
          try simp only [Act.put, List.setIfInBounds_toArray, List.set_cons_zero, List.set_cons_succ]
          refine take_in (i := 4) (v := .bool false) rfl (by kernel_rfl) (by kernel_rfl) (by kernel_rfl) (fun _ _ _ h => h) (by rfl) ?hy4c (by assumption) ?_
          case hy4c => intro WW hSw; have hh := hx0; go_simp; try with_reducible rfl
          try simp only [Act.put, List.setIfInBounds_toArray, List.set_cons_zero, List.set_cons_succ]
          refine take_in (i := 5) (v := .bool false) rfl (by kernel_rfl) (by kernel_rfl) (by kernel_rfl) (fun _ _ _ h => h) (by rfl) ?hy5c (by assumption) ?_
          case hy5c => intro WW hSw; (try dsimp only at hSw); go_simp; try with_reducible rfl
          try simp only [Act.put, List.setIfInBounds_toArray, List.set_cons_zero, List.set_cons_succ]
          refine take_in (i := 6) (v := ?v6c) rfl (by kernel_rfl) (by kernel_rfl) (by kernel_rfl) (fun _ _ _ h => h) (by rfl) ?hy6c (by assumption) ?_
          case hy6c => intro WW hSw; (try dsimp only at hSw); go_simp; try with_reducible rfl
          try simp only [Act.put, List.setIfInBounds_toArray, List.set_cons_zero, List.set_cons_succ]
          refine take_in (i := 7) (v := ?v7c) rfl (by kernel_rfl) (by kernel_rfl) (by kernel_rfl) (fun _ _ _ h => h) (by rfl) ?hy7c (by assumption) ?_
          case hy7c => intro WW hSw; (try dsimp only at hSw); go_simp; try with_reducible rfl
          try simp only [Act.put, List.setIfInBounds_toArray, List.set_cons_zero, List.set_cons_succ]
          refine take_in (i := 8) (v := ?v8c) rfl (by kernel_rfl) (by kernel_rfl) (by kernel_rfl) (fun _ _ _ h => h) (by rfl) ?hy8c (by assumption) ?_
          case hy8c => intro WW hSw; (try dsimp only at hSw); go_simp; try with_reducible rfl
          try simp only [Act.put, List.setIfInBounds_toArray, List.set_cons_zero, List.set_cons_succ]
          refine take_in (i := 9) (v := .int .i64 x) rfl (by kernel_rfl) (by kernel_rfl) (by kernel_rfl) (fun _ _ _ h => h) (by rfl) ?hy9c (by assumption) ?_
          case hy9c => intro WW hSw; have h1 := HX.out WW hSw; have h2 := HVB.out WW hSw; go_simp; try with_reducible rfl
          try simp only [Act.put, List.setIfInBounds_toArray, List.set_cons_zero, List.set_cons_succ]
          refine take_in (i := 10) (v := ?v10c) rfl (by kernel_rfl) (by kernel_rfl) (by kernel_rfl) (fun _ _ _ h => h) (by rfl) ?hy10c (by assumption) ?_
          case hy10c => intro WW hSw; (try dsimp only at hSw); go_simp; try with_reducible rfl
          try simp only [Act.put, List.setIfInBounds_toArray, List.set_cons_zero, List.set_cons_succ]
          refine take_in (i := 11) (v := ?v11c) rfl (by kernel_rfl) (by kernel_rfl) (by kernel_rfl) (fun _ _ _ h => h) (by rfl) ?hy11c (by assumption) ?_
          case hy11c => intro WW hSw; (try dsimp only at hSw); go_simp; try with_reducible rfl
          try simp only [Act.put, List.setIfInBounds_toArray, List.set_cons_zero, List.set_cons_succ]
          refine take_in (i := 12) (v := ?v12c) rfl (by kernel_rfl) (by kernel_rfl) (by kernel_rfl) (fun _ _ _ h => h) (by rfl) ?hy12c (by assumption) ?_
          case hy12c => intro WW hSw; (try dsimp only at hSw); go_simp; try with_reducible rfl
          try simp only [Act.put, List.setIfInBounds_toArray, List.set_cons_zero, List.set_cons_succ]
          refine take_in (i := 13) (v := .slice A N c) rfl (by kernel_rfl) (by kernel_rfl) (by kernel_rfl) (fun _ _ _ h => h) (by rfl) ?hy13c (by assumption) ?_
          case hy13c => intro WW hSw; have h1 := HX.out WW hSw; have h2 := HVB.out WW hSw; go_simp; try with_reducible rfl
          try simp only [Act.put, List.setIfInBounds_toArray, List.set_cons_zero, List.set_cons_succ]
          refine take_in (i := 14) (v := .int .i64 (N : Int)) rfl (by kernel_rfl) (by kernel_rfl) (by kernel_rfl) (fun _ _ _ h => h) (by rfl) ?hy14c (by assumption) ?_
          case hy14c => intro WW hSw; (try dsimp only at hSw); go_simp; try with_reducible rfl
          try simp only [Act.put, List.setIfInBounds_toArray, List.set_cons_zero, List.set_cons_succ]
          refine take_in (i := 15) (v := .bool true) rfl (by kernel_rfl) (by kernel_rfl) (by kernel_rfl) (fun _ _ _ h => h) (by rfl) ?hy15c (by assumption) ?_
          case hy15c => intro WW hSw; have hh := hxN; go_simp; try with_reducible rfl
          try simp only [Act.put, List.setIfInBounds_toArray, List.set_cons_zero, List.set_cons_succ]
          refine take_in (i := 16) (v := .bool true) rfl (by kernel_rfl) (by kernel_rfl) (by kernel_rfl) (fun _ _ _ h => h) (by rfl) ?hy16c (by assumption) ?_
          case hy16c => intro WW hSw; (try dsimp only at hSw); go_simp; try with_reducible rfl
          try simp only [Act.put, List.setIfInBounds_toArray, List.set_cons_zero, List.set_cons_succ]
          refine wpAnyH_done (by kernel_rfl) ?_ _
          go_wp2
          go_ret2
          unfold RGatR
          exact ⟨.inr ⟨by have := HM.out; have := HQ.out; have := HG.out; omega, rfl⟩, by repeat (first | exact HBX.out | apply bdrew)⟩
open Go.RowKit Go.Maps

theorem rconcat_nil (p : Value) (w : World) (v : Option Addr) (hp : p = .pointer v) :
    Calls Tryd.prog 17 #[p, .pointer none] w fun e w' => e = .returned (.tuple #[.pointer none, .int .i64 1]) ∧ w' = w := by
  subst hp
  go_enter Tryd.func17, Tryd.ntmps17
  go_wp2
  go_ret2
  exact ⟨rfl, rfl⟩
theorem concat_nil (p : Value) (w : World) (v : Option Addr) (hp : p = .pointer v) :
    Calls Tryd.prog 16 #[p, .pointer none] w fun e w' => e = .returned (.tuple #[.pointer none, .int .i64 1]) ∧ w' = w := by
  subst hp
  go_enter Tryd.func16, Tryd.ntmps16
  go_wp2
  go_ret2
  exact ⟨rfl, rfl⟩
set_option maxRecDepth 100000 in
set_option maxHeartbeats 3200000 in
theorem rconcat_kind (k k2 : Int) (rb rb2 : Nat) (A A2 : Option Addr) (c c2 : Nat) (us ms : List V5) (w : World) (hv : RVec w k rb A c us) (hv2 : RVec w k2 rb2 A2 c2 ms) (hk : (k2 != k) = true) :
    Calls Tryd.prog 17 #[.pointer (some ⟨rb, 0, none⟩), .pointer (some ⟨rb2, 0, none⟩)] w fun e w' => e = .returned (.tuple #[.pointer none, .int .i64 31]) ∧ Below w.heap.size w w' := by
  have HA : Aside0 (∀ WW, Below w.heap.size w WW → WW.cell? ⟨rb, 0, none⟩ = some (.int .i64 k)) := ⟨fun WW h => (h.cell (p := ⟨rb, 0, none⟩) hv.box.lt).trans (hv.box.cells 0)⟩
  have HB : Aside0 (∀ WW, Below w.heap.size w WW → WW.cell? ⟨rb2, 0, none⟩ = some (.int .i64 k2)) := ⟨fun WW h => (h.cell (p := ⟨rb2, 0, none⟩) hv2.box.lt).trans (hv2.box.cells 0)⟩
  clear hv hv2
  go_enter Tryd.func17, Tryd.ntmps17
  go_upto_region 3 with (fail)
  refine wp_region_held_drew (S := (fun WW => Below w.heap.size w WW)) (by kernel_rfl) ?_ (fun hHeld => ?_)
  · (repeat (first | exact Below.refl _ _ | apply bdrew))
  refine take_in (i := 0) (v := ?v0a) rfl (by kernel_rfl) (by kernel_rfl) (by kernel_rfl) (fun _ _ _ h => h) (by rfl) ?hy0a (by assumption) ?_
  case hy0a => intro WW hSw; (try dsimp only at hSw); go_simp; try with_reducible rfl
  try simp only [Act.put, List.setIfInBounds_toArray, List.set_cons_zero, List.set_cons_succ]
  refine take_in (i := 1) (v := ?v1a) rfl (by kernel_rfl) (by kernel_rfl) (by kernel_rfl) (fun _ _ _ h => h) (by rfl) ?hy1a (by assumption) ?_
  case hy1a => intro WW hSw; (try dsimp only at hSw); go_simp; try with_reducible rfl
  try simp only [Act.put, List.setIfInBounds_toArray, List.set_cons_zero, List.set_cons_succ]
  refine take_in (i := 2) (v := ?v2a) rfl (by kernel_rfl) (by kernel_rfl) (by kernel_rfl) (fun _ _ _ h => h) (by rfl) ?hy2a (by assumption) ?_
  case hy2a => intro WW hSw; (try dsimp only at hSw); go_simp; try with_reducible rfl
  try simp only [Act.put, List.setIfInBounds_toArray, List.set_cons_zero, List.set_cons_succ]
  refine take_in (i := 3) (v := .int .i64 k2) rfl (by kernel_rfl) (by kernel_rfl) (by kernel_rfl) (fun _ _ _ h => h) (by rfl) ?hy3a (by assumption) ?_
  case hy3a => intro WW hSw; have h1 := HA.out WW hSw; have h2 := HB.out WW hSw; go_simp; try with_reducible rfl
  try simp only [Act.put, List.setIfInBounds_toArray, List.set_cons_zero, List.set_cons_succ]
  refine take_in (i := 4) (v := ?v4a) rfl (by kernel_rfl) (by kernel_rfl) (by kernel_rfl) (fun _ _ _ h => h) (by rfl) ?hy4a (by assumption) ?_
  case hy4a => intro WW hSw; (try dsimp only at hSw); go_simp; try with_reducible rfl
  try simp only [Act.put, List.setIfInBounds_toArray, List.set_cons_zero, List.set_cons_succ]
  refine take_in (i := 5) (v := ?v5a) rfl (by kernel_rfl) (by kernel_rfl) (by kernel_rfl) (fun _ _ _ h => h) (by rfl) ?hy5a (by assumption) ?_
  case hy5a => intro WW hSw; (try dsimp only at hSw); go_simp; try with_reducible rfl
  try simp only [Act.put, List.setIfInBounds_toArray, List.set_cons_zero, List.set_cons_succ]
  refine take_in (i := 6) (v := ?v6a) rfl (by kernel_rfl) (by kernel_rfl) (by kernel_rfl) (fun _ _ _ h => h) (by rfl) ?hy6a (by assumption) ?_
  case hy6a => intro WW hSw; (try dsimp only at hSw); go_simp; try with_reducible rfl
  try simp only [Act.put, List.setIfInBounds_toArray, List.set_cons_zero, List.set_cons_succ]
  refine take_in (i := 7) (v := .int .i64 k) rfl (by kernel_rfl) (by kernel_rfl) (by kernel_rfl) (fun _ _ _ h => h) (by rfl) ?hy7a (by assumption) ?_
  case hy7a => intro WW hSw; have h1 := HA.out WW hSw; have h2 := HB.out WW hSw; go_simp; try with_reducible rfl
  try simp only [Act.put, List.setIfInBounds_toArray, List.set_cons_zero, List.set_cons_succ]
  refine take_in (i := 8) (v := .bool true) rfl (by kernel_rfl) (by kernel_rfl) (by kernel_rfl) (fun _ _ _ h => h) (by rfl) ?hy8a (by assumption) ?_
  case hy8a => intro WW hSw; have hh := hk; go_simp; try with_reducible rfl
  try simp only [Act.put, List.setIfInBounds_toArray, List.set_cons_zero, List.set_cons_succ]
  refine wpAnyH_done (by kernel_rfl) ?_ _
  go_wp2
  go_ret2
  exact ⟨rfl, bdrew (Below.refl _ _)⟩
set_option maxRecDepth 100000 in
set_option maxHeartbeats 3200000 in
theorem concat_kind (k k2 : Int) (F : Nat → Prop) (b b2 : Nat) (S S2 : VS) (w : World) (hv : VecIs w F b S) (hv2 : VecIs w F b2 S2) (hk1 : S.k = k) (hk2 : S2.k = k2) (hk : (k2 != k) = true) :
    Calls Tryd.prog 16 #[.pointer (some ⟨b, 0, none⟩), .pointer (some ⟨b2, 0, none⟩)] w fun e w' => e = .returned (.tuple #[.pointer none, .int .i64 31]) ∧ Below w.heap.size w w' := by
  obtain ⟨nv, bv, iv, dv, hvv, m, hV⟩ := hv
  obtain ⟨nv2, bv2, iv2, dv2, hvv2, m2, hV2⟩ := hv2
  have HA : Aside0 (∀ WW, Below w.heap.size w WW → WW.cell? ⟨b, 0, none⟩ = some (.int .i64 k)) := ⟨fun WW h => by rw [← hk1]; exact (h.cell (p := ⟨b, 0, none⟩) hV.box.lt).trans (hV.box.cells 0)⟩
  have HB : Aside0 (∀ WW, Below w.heap.size w WW → WW.cell? ⟨b2, 0, none⟩ = some (.int .i64 k2)) := ⟨fun WW h => by rw [← hk2]; exact (h.cell (p := ⟨b2, 0, none⟩) hV2.box.lt).trans (hV2.box.cells 0)⟩
  clear hV hV2 hk1 hk2
  go_enter Tryd.func16, Tryd.ntmps16
  go_upto_region 3 with (fail)
  refine wp_region_held_drew (S := (fun WW => Below w.heap.size w WW)) (by kernel_rfl) ?_ (fun hHeld => ?_)
  · (repeat (first | exact Below.refl _ _ | apply bdrew))
  refine take_in (i := 0) (v := ?v0a) rfl (by kernel_rfl) (by kernel_rfl) (by kernel_rfl) (fun _ _ _ h => h) (by rfl) ?hy0a (by assumption) ?_
  case hy0a => intro WW hSw; (try dsimp only at hSw); go_simp; try with_reducible rfl
  try simp only [Act.put, List.setIfInBounds_toArray, List.set_cons_zero, List.set_cons_succ]
  refine take_in (i := 1) (v := ?v1a) rfl (by kernel_rfl) (by kernel_rfl) (by kernel_rfl) (fun _ _ _ h => h) (by rfl) ?hy1a (by assumption) ?_
  case hy1a => intro WW hSw; (try dsimp only at hSw); go_simp; try with_reducible rfl
  try simp only [Act.put, List.setIfInBounds_toArray, List.set_cons_zero, List.set_cons_succ]
  refine take_in (i := 2) (v := ?v2a) rfl (by kernel_rfl) (by kernel_rfl) (by kernel_rfl) (fun _ _ _ h => h) (by rfl) ?hy2a (by assumption) ?_
  case hy2a => intro WW hSw; (try dsimp only at hSw); go_simp; try with_reducible rfl
  try simp only [Act.put, List.setIfInBounds_toArray, List.set_cons_zero, List.set_cons_succ]
  refine take_in (i := 3) (v := .int .i64 k2) rfl (by kernel_rfl) (by kernel_rfl) (by kernel_rfl) (fun _ _ _ h => h) (by rfl) ?hy3a (by assumption) ?_
  case hy3a => intro WW hSw; have h1 := HA.out WW hSw; have h2 := HB.out WW hSw; go_simp; try with_reducible rfl
  try simp only [Act.put, List.setIfInBounds_toArray, List.set_cons_zero, List.set_cons_succ]
  refine take_in (i := 4) (v := ?v4a) rfl (by kernel_rfl) (by kernel_rfl) (by kernel_rfl) (fun _ _ _ h => h) (by rfl) ?hy4a (by assumption) ?_
  case hy4a => intro WW hSw; (try dsimp only at hSw); go_simp; try with_reducible rfl
  try simp only [Act.put, List.setIfInBounds_toArray, List.set_cons_zero, List.set_cons_succ]
  refine take_in (i := 5) (v := ?v5a) rfl (by kernel_rfl) (by kernel_rfl) (by kernel_rfl) (fun _ _ _ h => h) (by rfl) ?hy5a (by assumption) ?_
  case hy5a => intro WW hSw; (try dsimp only at hSw); go_simp; try with_reducible rfl
  try simp only [Act.put, List.setIfInBounds_toArray, List.set_cons_zero, List.set_cons_succ]
  refine take_in (i := 6) (v := ?v6a) rfl (by kernel_rfl) (by kernel_rfl) (by kernel_rfl) (fun _ _ _ h => h) (by rfl) ?hy6a (by assumption) ?_
  case hy6a => intro WW hSw; (try dsimp only at hSw); go_simp; try with_reducible rfl
  try simp only [Act.put, List.setIfInBounds_toArray, List.set_cons_zero, List.set_cons_succ]
  refine take_in (i := 7) (v := .int .i64 k) rfl (by kernel_rfl) (by kernel_rfl) (by kernel_rfl) (fun _ _ _ h => h) (by rfl) ?hy7a (by assumption) ?_
  case hy7a => intro WW hSw; have h1 := HA.out WW hSw; have h2 := HB.out WW hSw; go_simp; try with_reducible rfl
  try simp only [Act.put, List.setIfInBounds_toArray, List.set_cons_zero, List.set_cons_succ]
  refine take_in (i := 8) (v := .bool true) rfl (by kernel_rfl) (by kernel_rfl) (by kernel_rfl) (fun _ _ _ h => h) (by rfl) ?hy8a (by assumption) ?_
  case hy8a => intro WW hSw; have hh := hk; go_simp; try with_reducible rfl
  try simp only [Act.put, List.setIfInBounds_toArray, List.set_cons_zero, List.set_cons_succ]
  refine take_in (i := 9) (v := ?v9a) rfl (by kernel_rfl) (by kernel_rfl) (by kernel_rfl) (fun _ _ _ h => h) (by rfl) ?hy9a (by assumption) ?_
  case hy9a => intro WW hSw; (try dsimp only at hSw); go_simp; try with_reducible rfl
  try simp only [Act.put, List.setIfInBounds_toArray, List.set_cons_zero, List.set_cons_succ]
  refine wpAnyH_done (by kernel_rfl) ?_ _
  go_wp2
  go_ret2
  exact ⟨rfl, bdrew (Below.refl _ _)⟩
set_option maxRecDepth 100000 in
set_option maxHeartbeats 3200000 in
theorem rconcat_ok (k : Int) (rb rb2 : Nat) (A A2 : Option Addr) (c c2 : Nat) (us ms : List V5) (w : World) (hv : RVec w k rb A c us) (hv2 : RVec w k rb2 A2 c2 ms) (hN : us.length + ms.length ≤ 100000000000) :
    Calls Tryd.prog 17 #[.pointer (some ⟨rb, 0, none⟩), .pointer (some ⟨rb2, 0, none⟩)] w fun e w' => ∃ nb A' c', e = .returned (.tuple #[.pointer (some ⟨nb, 0, none⟩), .int .i64 0]) ∧ RVec w' k nb A' c' (us ++ ms) ∧ Below w.heap.size w w' := by
  have hb1 := hv.box.lt
  have hb2 := hv2.box.lt
  have HA : Aside0 (∀ WW, Below w.heap.size w WW → ∀ i, WW.cell? ⟨rb, i, none⟩ = (#[.int .i64 k, .slice A us.length c] : Array Value)[i]?) := ⟨fun WW h => (hv.box.at_ (h.block _ hb1)).cells⟩
  have HB : Aside0 (∀ WW, Below w.heap.size w WW → ∀ i, WW.cell? ⟨rb2, i, none⟩ = (#[.int .i64 k, .slice A2 ms.length c2] : Array Value)[i]?) := ⟨fun WW h => (hv2.box.at_ (h.block _ hb2)).cells⟩
  have HR := Aside0.mk (And.intro hv hv2)
  have HN := Aside0.mk hN
  have hkk : (k != k) = false := by simp
  clear hv hv2 hb1 hb2 hN
  go_enter Tryd.func17, Tryd.ntmps17
  go_upto_region 3 with (fail)
  refine wp_region_held_drew (S := (fun WW => Below w.heap.size w WW)) (by kernel_rfl) ?_ (fun hHeld => ?_)
  · (repeat (first | exact Below.refl _ _ | apply bdrew))
  refine take_in (i := 0) (v := ?v0a) rfl (by kernel_rfl) (by kernel_rfl) (by kernel_rfl) (fun _ _ _ h => h) (by rfl) ?hy0a (by assumption) ?_
  case hy0a => intro WW hSw; (try dsimp only at hSw); go_simp; try with_reducible rfl
  try simp only [Act.put, List.setIfInBounds_toArray, List.set_cons_zero, List.set_cons_succ]
  refine take_in (i := 1) (v := ?v1a) rfl (by kernel_rfl) (by kernel_rfl) (by kernel_rfl) (fun _ _ _ h => h) (by rfl) ?hy1a (by assumption) ?_
  case hy1a => intro WW hSw; (try dsimp only at hSw); go_simp; try with_reducible rfl
  try simp only [Act.put, List.setIfInBounds_toArray, List.set_cons_zero, List.set_cons_succ]
  refine take_in (i := 2) (v := ?v2a) rfl (by kernel_rfl) (by kernel_rfl) (by kernel_rfl) (fun _ _ _ h => h) (by rfl) ?hy2a (by assumption) ?_
  case hy2a => intro WW hSw; (try dsimp only at hSw); go_simp; try with_reducible rfl
  try simp only [Act.put, List.setIfInBounds_toArray, List.set_cons_zero, List.set_cons_succ]
  refine take_in (i := 3) (v := .int .i64 k) rfl (by kernel_rfl) (by kernel_rfl) (by kernel_rfl) (fun _ _ _ h => h) (by rfl) ?hy3a (by assumption) ?_
  case hy3a => intro WW hSw; have h1 := HA.out WW hSw; have h2 := HB.out WW hSw; go_simp; try with_reducible rfl
  try simp only [Act.put, List.setIfInBounds_toArray, List.set_cons_zero, List.set_cons_succ]
  refine take_in (i := 4) (v := ?v4a) rfl (by kernel_rfl) (by kernel_rfl) (by kernel_rfl) (fun _ _ _ h => h) (by rfl) ?hy4a (by assumption) ?_
  case hy4a => intro WW hSw; (try dsimp only at hSw); go_simp; try with_reducible rfl
  try simp only [Act.put, List.setIfInBounds_toArray, List.set_cons_zero, List.set_cons_succ]
  refine take_in (i := 5) (v := ?v5a) rfl (by kernel_rfl) (by kernel_rfl) (by kernel_rfl) (fun _ _ _ h => h) (by rfl) ?hy5a (by assumption) ?_
  case hy5a => intro WW hSw; (try dsimp only at hSw); go_simp; try with_reducible rfl
  try simp only [Act.put, List.setIfInBounds_toArray, List.set_cons_zero, List.set_cons_succ]
  refine take_in (i := 6) (v := ?v6a) rfl (by kernel_rfl) (by kernel_rfl) (by kernel_rfl) (fun _ _ _ h => h) (by rfl) ?hy6a (by assumption) ?_
  case hy6a => intro WW hSw; (try dsimp only at hSw); go_simp; try with_reducible rfl
  try simp only [Act.put, List.setIfInBounds_toArray, List.set_cons_zero, List.set_cons_succ]
  refine take_in (i := 7) (v := .int .i64 k) rfl (by kernel_rfl) (by kernel_rfl) (by kernel_rfl) (fun _ _ _ h => h) (by rfl) ?hy7a (by assumption) ?_
  case hy7a => intro WW hSw; have h1 := HA.out WW hSw; have h2 := HB.out WW hSw; go_simp; try with_reducible rfl
  try simp only [Act.put, List.setIfInBounds_toArray, List.set_cons_zero, List.set_cons_succ]
  refine take_in (i := 8) (v := .bool false) rfl (by kernel_rfl) (by kernel_rfl) (by kernel_rfl) (fun _ _ _ h => h) (by rfl) ?hy8a (by assumption) ?_
  case hy8a => intro WW hSw; have hh := hkk; go_simp; try with_reducible rfl
  try simp only [Act.put, List.setIfInBounds_toArray, List.set_cons_zero, List.set_cons_succ]
  refine wpAnyH_done (by kernel_rfl) ?_ _
  go_upto_region 5 with (fail)
  refine wp_region_held_drew (S := (fun WW => Below w.heap.size w WW)) (by kernel_rfl) ?_ (fun hHeld => ?_)
  · (repeat (first | exact HB10 | exact HB5 | exact HB4 | exact Below.refl _ _ | apply bdrew | apply below_more))
  refine take_in (i := 0) (v := ?v0d) rfl (by kernel_rfl) (by kernel_rfl) (by kernel_rfl) (fun _ _ _ h => h) (by rfl) ?hy0d (by assumption) ?_
  case hy0d => intro WW hSw; (try dsimp only at hSw); go_simp; try with_reducible rfl
  try simp only [Act.put, List.setIfInBounds_toArray, List.set_cons_zero, List.set_cons_succ]
  refine take_in (i := 1) (v := ?v1d) rfl (by kernel_rfl) (by kernel_rfl) (by kernel_rfl) (fun _ _ _ h => h) (by rfl) ?hy1d (by assumption) ?_
  case hy1d => intro WW hSw; (try dsimp only at hSw); go_simp; try with_reducible rfl
  try simp only [Act.put, List.setIfInBounds_toArray, List.set_cons_zero, List.set_cons_succ]
  refine take_in (i := 2) (v := ?v2d) rfl (by kernel_rfl) (by kernel_rfl) (by kernel_rfl) (fun _ _ _ h => h) (by rfl) ?hy2d (by assumption) ?_
  case hy2d => intro WW hSw; (try dsimp only at hSw); go_simp; try with_reducible rfl
  try simp only [Act.put, List.setIfInBounds_toArray, List.set_cons_zero, List.set_cons_succ]
  refine take_in (i := 3) (v := .int .i64 k) rfl (by kernel_rfl) (by kernel_rfl) (by kernel_rfl) (fun _ _ _ h => h) (by rfl) ?hy3d (by assumption) ?_
  case hy3d => intro WW hSw; have h1 := HA.out WW hSw; have h2 := HB.out WW hSw; go_simp; try with_reducible rfl
  try simp only [Act.put, List.setIfInBounds_toArray, List.set_cons_zero, List.set_cons_succ]
  refine take_in (i := 5) (v := ?v5d) rfl (by kernel_rfl) (by kernel_rfl) (by kernel_rfl) (fun _ _ _ h => h) (by rfl) ?hy5d (by assumption) ?_
  case hy5d => intro WW hSw; (try dsimp only at hSw); go_simp; try with_reducible rfl
  try simp only [Act.put, List.setIfInBounds_toArray, List.set_cons_zero, List.set_cons_succ]
  refine take_in (i := 6) (v := ?v6d) rfl (by kernel_rfl) (by kernel_rfl) (by kernel_rfl) (fun _ _ _ h => h) (by rfl) ?hy6d (by assumption) ?_
  case hy6d => intro WW hSw; (try dsimp only at hSw); go_simp; try with_reducible rfl
  try simp only [Act.put, List.setIfInBounds_toArray, List.set_cons_zero, List.set_cons_succ]
  refine take_in (i := 7) (v := ?v7d) rfl (by kernel_rfl) (by kernel_rfl) (by kernel_rfl) (fun _ _ _ h => h) (by rfl) ?hy7d (by assumption) ?_
  case hy7d => intro WW hSw; (try dsimp only at hSw); go_simp; try with_reducible rfl
  try simp only [Act.put, List.setIfInBounds_toArray, List.set_cons_zero, List.set_cons_succ]
  refine take_in (i := 8) (v := .slice A us.length c) rfl (by kernel_rfl) (by kernel_rfl) (by kernel_rfl) (fun _ _ _ h => h) (by rfl) ?hy8d (by assumption) ?_
  case hy8d => intro WW hSw; have h1 := HA.out WW hSw; have h2 := HB.out WW hSw; go_simp; try with_reducible rfl
  try simp only [Act.put, List.setIfInBounds_toArray, List.set_cons_zero, List.set_cons_succ]
  refine take_in (i := 10) (v := ?v10d) rfl (by kernel_rfl) (by kernel_rfl) (by kernel_rfl) (fun _ _ _ h => h) (by rfl) ?hy10d (by assumption) ?_
  case hy10d => intro WW hSw; (try dsimp only at hSw); go_simp; try with_reducible rfl
  try simp only [Act.put, List.setIfInBounds_toArray, List.set_cons_zero, List.set_cons_succ]
  refine take_in (i := 11) (v := ?v11d) rfl (by kernel_rfl) (by kernel_rfl) (by kernel_rfl) (fun _ _ _ h => h) (by rfl) ?hy11d (by assumption) ?_
  case hy11d => intro WW hSw; (try dsimp only at hSw); go_simp; try with_reducible rfl
  try simp only [Act.put, List.setIfInBounds_toArray, List.set_cons_zero, List.set_cons_succ]
  refine take_in (i := 12) (v := ?v12d) rfl (by kernel_rfl) (by kernel_rfl) (by kernel_rfl) (fun _ _ _ h => h) (by rfl) ?hy12d (by assumption) ?_
  case hy12d => intro WW hSw; (try dsimp only at hSw); go_simp; try with_reducible rfl
  try simp only [Act.put, List.setIfInBounds_toArray, List.set_cons_zero, List.set_cons_succ]
  refine take_in (i := 13) (v := .slice A2 ms.length c2) rfl (by kernel_rfl) (by kernel_rfl) (by kernel_rfl) (fun _ _ _ h => h) (by rfl) ?hy13d (by assumption) ?_
  case hy13d => intro WW hSw; have h1 := HA.out WW hSw; have h2 := HB.out WW hSw; go_simp; try with_reducible rfl
  try simp only [Act.put, List.setIfInBounds_toArray, List.set_cons_zero, List.set_cons_succ]
  refine one_step (i := 4) (by kernel_rfl) rfl (fun K hK => ?_)
  have hld : ∀ W : World, Sem.run Tryd.prog (pure (#[] : Array Value)) W = .ok #[] W := fun _ => rfl
  have hst : ∀ (ad : Addr) (W : World), Sem.run Tryd.prog (storeCells ad ([] : List Value) 0) W = .ok () W := fun _ _ => rfl
  have hl0 : ∀ (ad : Addr) (W : World), Sem.run Tryd.prog (loadCellsFrom ad 0 0 #[]) W = .ok #[] W := fun _ _ => rfl
  go_simp
  clear hld hst hl0
  refine hK.out _ _ ?_ (fun hHeld => ?_)
  · (repeat (first | exact HB10 | exact HB5 | exact HB4 | exact Below.refl _ _ | apply bdrew | apply below_more))
  clear hK K
  try simp only [Act.put, List.setIfInBounds_toArray, List.set_cons_zero, List.set_cons_succ]
  refine one_step (i := 9) (by kernel_rfl) rfl (fun K hK => ?_)
  refine of_if (by rfl) ?_
  refine append_valsG (.tmp 21) (.tmp 25) rfl w.heap.size (.slice (some ⟨w.heap.size, 0, none⟩) 0 0) [] rfl ?hown1 (by simp) A us c rfl ?hrd1 ?hap1 (by have := HN.out; simp; omega) ?_
  case hown1 => exact (ownV_empty w).below (by repeat (first | exact Below.refl _ _ | apply bdrew))
  case hrd1 => exact HR.out.1.rd.below (by repeat (first | exact Below.refl _ _ | apply bdrew | apply below_more))
  case hap1 => intro u hu a e hp e2; have h1 := readsI_lt (e ▸ HR.out.1.rd.path u hu) hp; simp [Value.ownBlock] at e2; omega
  intro v4 W4 hO4 hb4 hg4 hat4
  have HB4 : Below w.heap.size w W4 := (show Below w.heap.size w _ from by (repeat (first | exact Below.refl _ _ | apply bdrew | apply below_more))).trans hb4
  have hO4 : OwnV W4 w.heap.size v4 us := hO4
  obtain ⟨A4, c4, rfl, hrd4⟩ := hO4.reads
  have HO4 := Aside0.mk hO4
  clear hO4 hb4 hg4 hat4 hrd4
  refine hK.out _ _ ?_ (fun hHeld => ?_)
  · (repeat (first | exact HB10 | exact HB5 | exact HB4 | exact Below.refl _ _ | apply bdrew | apply below_more))
  clear hK K
  try simp only [Act.put, List.setIfInBounds_toArray, List.set_cons_zero, List.set_cons_succ]
  refine one_step (i := 14) (by kernel_rfl) rfl (fun K hK => ?_)
  refine of_if (by rfl) ?_
  refine append_valsG (.tmp 26) (.tmp 30) rfl w.heap.size (.slice A4 us.length c4) us rfl ?hown2 ?hbb2 A2 ms c2 rfl ?hrd2 ?hap2 (by have := HN.out; omega) ?_
  case hown2 => exact HO4.out.below (by repeat (first | exact Below.refl _ _ | apply bdrew))
  case hbb2 => have := HB4.size; simp; omega
  case hrd2 => exact HR.out.2.rd.below (by repeat (first | exact HB4 | exact Below.refl _ _ | apply bdrew | apply below_more))
  case hap2 => intro u hu a e hp e2; have h1 := readsI_lt (e ▸ HR.out.2.rd.path u hu) hp; have h2 := (HO4.out.row.lt a.block e2).1; omega
  intro v5 W5 hO5 hb5 hg5 hat5
  have HB5 : Below w.heap.size w W5 := (show Below w.heap.size w _ from by (repeat (first | exact HB4 | exact Below.refl _ _ | apply bdrew | apply below_more))).trans hb5
  obtain ⟨A5, c5, rfl, hrd5⟩ := hO5.reads
  have HO5 := Aside0.mk hO5
  rw [List.length_append]
  clear hO5 hb5 hg5 hat5 hrd5
  refine hK.out _ _ ?_ (fun hHeld => ?_)
  · (repeat (first | exact HB10 | exact HB5 | exact HB4 | exact Below.refl _ _ | apply bdrew | apply below_more))
  clear hK K
  try simp only [Act.put, List.setIfInBounds_toArray, List.set_cons_zero, List.set_cons_succ]
  refine take_in (i := 15) (v := ?v15d) rfl (by kernel_rfl) (by kernel_rfl) (by kernel_rfl) (fun _ _ _ h => h) (by rfl) ?hy15d (by assumption) ?_
  case hy15d => intro WW hSw; (try dsimp only at hSw); go_simp; try with_reducible rfl
  try simp only [Act.put, List.setIfInBounds_toArray, List.set_cons_zero, List.set_cons_succ]
  refine one_step (i := 16) (by kernel_rfl) rfl (fun K hK => ?_)
  go_simp
  refine hK.out _ _ ?_ (fun hHeld => ?_)
  · (repeat (first | exact HB10 | exact HB5 | exact HB4 | exact Below.refl _ _ | apply bdrew | apply below_more))
  clear hK K
  try simp only [Act.put, List.setIfInBounds_toArray, List.set_cons_zero, List.set_cons_succ]
  refine take_in (i := 17) (v := ?v17d) rfl (by kernel_rfl) (by kernel_rfl) (by kernel_rfl) (fun _ _ _ h => h) (by rfl) ?hy17d (by assumption) ?_
  case hy17d => intro WW hSw; (try dsimp only at hSw); go_simp; try with_reducible rfl
  try simp only [Act.put, List.setIfInBounds_toArray, List.set_cons_zero, List.set_cons_succ]
  refine take_in (i := 18) (v := ?v18d) rfl (by kernel_rfl) (by kernel_rfl) (by kernel_rfl) (fun _ _ _ h => h) (by rfl) ?hy18d (by assumption) ?_
  case hy18d => intro WW hSw; (try dsimp only at hSw); go_simp; try with_reducible rfl
  try simp only [Act.put, List.setIfInBounds_toArray, List.set_cons_zero, List.set_cons_succ]
  refine wpAnyH_done (by kernel_rfl) ?_ _
  go_wp2
  go_ret2
  refine ⟨W5.heap.size, A5, c5, rfl, ?_, by repeat (first | exact HB5 | apply bdrew | apply below_more)⟩
  have h := HO5.out
  have hx : RVec (W5.alloc (.cells #[.int .i64 k, .slice A5 (us ++ ms).length c5] 56)) k W5.heap.size A5 c5 (us ++ ms) := ⟨RBox.new W5 _, by
    obtain ⟨A9, c9, e, hr9⟩ := h.reads
    cases e
    exact hr9.below (below_more (Below.refl _ _) _)⟩
  rw [List.length_append] at hx
  exact hx.below (by repeat (first | exact Below.refl _ _ | apply bdrew))
end Go.Proofs.YtbdbcbpcekpcoaaDoor
