/- The document's fields whole; a Kid, in brackets where they are asked for. -/
import Derived.Test.YtkchpgjjkckfbaaDoorPrR2
import Derived.Test.YtkchpgjjkckfbaaDoorPrX
import Derived.Test.YtkchpgjjkckfbaaDoorRegS
set_option linter.unusedVariables false
set_option linter.unusedSimpArgs false
namespace Go.Proofs.YtkchpgjjkckfbaaDoor
open Go.RowKit

/-- Either of two may come. -/
theorem two_step {P : Program} {ops : Array Oper} {Q : Exit → Act → World → Prop} {S : World → Prop} {md : Region.Mode} {i j : Nat} {oi oj : Oper} {fuel : Nat} {listed : Array Bool} {a : Act} {w : World} (hr : Region.ready md ops listed = [i, j]) (hi : nthOp ops.toList i = some oi) (hj : nthOp ops.toList j = some oj)
    (h : ∀ K' : Act → World → Prop, Shut (∀ a w, S w → (S w → wpAnyH P md ops Q S fuel (listed.setIfInBounds i true) a w) → K' a w) → if Region.wanted oi (yielded ops a.tmps) = true then Oper.wp P oi a w K' Q else K' (a.put oi.dst undef) w)
    (h2 : ∀ K' : Act → World → Prop, Shut (∀ a w, S w → (S w → wpAnyH P md ops Q S fuel (listed.setIfInBounds j true) a w) → K' a w) → if Region.wanted oj (yielded ops a.tmps) = true then Oper.wp P oj a w K' Q else K' (a.put oj.dst undef) w) :
    wpAnyH P md ops Q S (fuel + 1) listed a w :=
  wpAnyH_ready hr (by simp) (AllReadyH.cons (nthOp_at hi) h (AllReadyH.cons (nthOp_at hj) h2 AllReadyH.nil))
theorem BX.keepR {w0 : World} {b : Nat} {S : List UInt8} {d : Int} {fl : Bool} {W W' : World} {x : Nat} {cs : Array Value} {T : TypeId} (h : BX W x cs T) (hw : RS w0 b S d fl W) (hk : KeptR b W W') (h1 : T ≠ TW) (h2 : T ≠ 5) : BX W' x cs T := by
  refine hk x _ h (fun e => ?_) (fun c fz e => ?_)
  · obtain rfl : x = b := Option.some.inj e
    obtain ⟨cs', hb⟩ := hw.holds
    rw [show W.heap[x]? = _ from h] at hb
    simp at hb
    exact h1 hb.2
  · simp at e
    exact h2 e.2.1
/-- What an expression's telling leaves of the document's writer. -/
def RefOk (w0 : World) (b : Nat) (x : XD) : Prop := ∀ (d : Nat) (T : List UInt8) (fl : Bool) (w : World), RS w0 b T d fl w → (fl = false → d ≤ 50) →
  Calls Tryd.prog 16 #[.pointer (some ⟨b, 0, none⟩), .agg #[.int .i64 x.op, .slice x.A x.ks.length x.c, .string x.nm, .string x.pr, .int .i64 x.v.k, .bool x.v.b, .int .i64 x.v.n, .string x.v.s, .slice x.v.A x.v.p.length x.v.c]] w
    fun e w' => e = .returned (.tuple #[]) ∧ (RS w0 b (T ++ textX x) d (fl || !okX x d) w' ∧ KeptR b w w')
noncomputable def kidB (aj : Int) (k : XD) (d : Nat) : Bool := if aj ≤ lvlD k.op then okX k d else decide (d < 50) && okX k (d + 1)
noncomputable def kidT (aj : Int) (k : XD) : List UInt8 := if aj ≤ lvlD k.op then textX k else 40 :: (textX k ++ [41])
theorem okX_none {k : XD} (h : shpD k.op = none) (d : Nat) : okX k d = false := by
  obtain ⟨op, A, ks, c, nm, pr, v⟩ := k
  rw [okX_mk]
  unfold okF
  rw [show shpD op = none from h]
theorem kid_ge {aj : Int} {k : XD} (h : aj ≤ levR k.op) (d : Nat) : (kidB aj k d = okX k d ∧ kidT aj k = textX k) ∨ (okX k d = false ∧ kidB aj k d = false) := by
  by_cases hq : shpD k.op = none
  · refine .inr ⟨okX_none hq d, ?_⟩
    unfold kidB
    rw [okX_none hq, okX_none hq]
    split <;> simp
  · unfold levR at h
    rw [if_neg hq] at h
    exact .inl ⟨by rw [kidB, if_pos h], by rw [kidT, if_pos h]⟩
theorem kid_lt {aj : Int} {k : XD} (h : ¬ aj ≤ levR k.op) (ha : aj ≤ 8) (d : Nat) : kidB aj k d = (decide (d < 50) && okX k (d + 1)) ∧ kidT aj k = 40 :: (textX k ++ [41]) := by
  by_cases hq : shpD k.op = none
  · unfold levR at h
    rw [if_pos hq] at h
    exact absurd ha h
  · unfold levR at h
    rw [if_neg hq] at h
    exact ⟨by rw [kidB, if_neg h], by rw [kidT, if_neg h]⟩

set_option maxRecDepth 100000 in
set_option maxHeartbeats 3200000 in
theorem kid_any (w0 : World) (b : Nat) (T : List UInt8) (op : Int) (A : Option Addr) (ks : List XD) (c : Nat) (nm pr : ByteArray) (v : VX) (d n : Nat) (aj : Int) (fl : Bool) (w : World) (hr : RS w0 b T d fl w) (hd : d ≤ 60) (hd50 : fl = false → d ≤ 50)
    (hask : ∀ W, Calls Tryd.prog 66 #[.int .i64 op, .int .i64 n] W fun e w' => e = .returned (.int .i64 aj) ∧ W = w') (ha8 : aj ≤ 8)
    (hx : ReadsXD w0 (.mk op A ks c nm pr v)) (hn : n < ks.length) (hk : ∀ k, k ∈ ks → RefOk w0 b k) :
    Calls Tryd.prog 43 #[.pointer (some ⟨b, 0, none⟩), .agg #[.int .i64 op, .slice A ks.length c, .string nm, .string pr, .int .i64 v.k, .bool v.b, .int .i64 v.n, .string v.s, .slice v.A v.p.length v.c], .int .i64 n] w fun e w' => e = .returned (.tuple #[]) ∧ (RS w0 b (T ++ kidT aj (ks.getD n XD.zero)) d (fl || !kidB aj (ks.getD n XD.zero) d) w' ∧ KeptR b w w') := by
  have HR := Aside0.mk hr
  have HA := Aside0.mk hask
  obtain ⟨a, hAe, hb, hsp, hcc⟩ := hx.row n hn
  subst hAe
  have hmem : ks.getD n XD.zero ∈ ks := by rw [List.getD_eq_getElem?_getD, List.getElem?_eq_getElem hn]; exact List.getElem_mem _
  have hex := hk _ hmem
  obtain ⟨k, hke⟩ : ∃ k, k = ks.getD n XD.zero := ⟨_, rfl⟩
  rw [← hke] at hcc hex ⊢
  obtain ⟨GB, hGB⟩ : ∃ GB, GB = (fl || !kidB aj k d) := ⟨_, rfl⟩
  obtain ⟨GT, hGT⟩ : ∃ GT, GT = T ++ kidT aj k := ⟨_, rfl⟩
  rw [← hGB, ← hGT]
  obtain ⟨ok1, hok1⟩ : ∃ ok1, ok1 = okX k d := ⟨_, rfl⟩
  obtain ⟨ok2, hok2⟩ : ∃ ok2, ok2 = okX k (d + 1) := ⟨_, rfl⟩
  obtain ⟨tk, htk⟩ : ∃ tk, tk = textX k := ⟨_, rfl⟩
  have HGE : Aside0 (aj ≤ levR k.op → (GB = (fl || !ok1) ∧ GT = T ++ tk) ∨ (ok1 = false ∧ GB = true)) := ⟨fun h => by
      rcases kid_ge h d with ⟨h1, h2⟩ | ⟨h1, h2⟩
      · exact .inl ⟨by rw [hGB, hok1, h1], by rw [hGT, htk, h2]⟩
      · exact .inr ⟨by rw [hok1, h1], by rw [hGB, h2]; simp⟩⟩
  have HLT : Aside0 (¬ aj ≤ levR k.op → GB = (fl || (decide (50 < d + 1) || !ok2)) ∧ GT = T ++ (40 :: (tk ++ [41]))) := ⟨fun h => by
      obtain ⟨h1, h2⟩ := kid_lt h ha8 d
      refine ⟨?_, by rw [hGT, htk, h2]⟩
      rw [hGB, hok2, h1, show decide (50 < d + 1) = !decide (d < 50) from by by_cases h5 : d < 50 <;> simp [h5] <;> omega]
      cases fl <;> cases decide (d < 50) <;> simp⟩
  have hex1 := fun (T : List UInt8) (fl : Bool) (w : World) => hex d T fl w
  have hex2 := fun (T : List UInt8) (fl : Bool) (w : World) => hex (d + 1) T fl w
  rw [← hok1, ← htk] at hex1
  rw [← hok2, ← htk] at hex2
  have hlev := fun W => lev_any k.op W
  obtain ⟨L, hL⟩ : ∃ L, L = levR k.op := ⟨_, rfl⟩
  rw [← hL] at hlev HGE HLT
  clear hGB hGT hok1 hok2 htk hex hke hmem hL hx hk ha8
  obtain ⟨kop, kA, kks, kc, knm, kpr, ⟨kk, kb, kn, kx, kpA, kp, kpc⟩⟩ := k
  dsimp only [XD.op, XD.A, XD.ks, XD.c, XD.nm, XD.pr, XD.v] at hex1 hex2 hlev
  have HE1 := Aside0.mk hex1
  have HE2 := Aside0.mk hex2
  have HLV := Aside0.mk hlev
  have hb9 := Nat.lt_of_lt_of_le hb hr.base.size
  have c0 : w.cell? (a.add (n * 9)) = some (.int .i64 kop) := by
      have e0 : (⟨(a.add (n * 9)).block, (a.add (n * 9)).off + 0, none⟩ : Addr) = a.add (n * 9) := by rw [← hsp]; rfl
      rw [← e0]
      exact (hr.base.cell (p := ⟨(a.add (n * 9)).block, (a.add (n * 9)).off + 0, none⟩) hb).trans (hcc 0 (by omega))
  have c1 : w.cell? ⟨(a.add (n * 9)).block, (a.add (n * 9)).off + 1, none⟩ = some (.slice kA kks.length kc) := (hr.base.cell (p := ⟨(a.add (n * 9)).block, (a.add (n * 9)).off + 1, none⟩) hb).trans (hcc 1 (by omega))
  have c2 : w.cell? ⟨(a.add (n * 9)).block, (a.add (n * 9)).off + 2, none⟩ = some (.string knm) := (hr.base.cell (p := ⟨(a.add (n * 9)).block, (a.add (n * 9)).off + 2, none⟩) hb).trans (hcc 2 (by omega))
  have c3 : w.cell? ⟨(a.add (n * 9)).block, (a.add (n * 9)).off + 3, none⟩ = some (.string kpr) := (hr.base.cell (p := ⟨(a.add (n * 9)).block, (a.add (n * 9)).off + 3, none⟩) hb).trans (hcc 3 (by omega))
  have c4 : w.cell? ⟨(a.add (n * 9)).block, (a.add (n * 9)).off + 4, none⟩ = some (.int .i64 kk) := (hr.base.cell (p := ⟨(a.add (n * 9)).block, (a.add (n * 9)).off + 4, none⟩) hb).trans (hcc 4 (by omega))
  have c5 : w.cell? ⟨(a.add (n * 9)).block, (a.add (n * 9)).off + 5, none⟩ = some (.bool kb) := (hr.base.cell (p := ⟨(a.add (n * 9)).block, (a.add (n * 9)).off + 5, none⟩) hb).trans (hcc 5 (by omega))
  have c6 : w.cell? ⟨(a.add (n * 9)).block, (a.add (n * 9)).off + 6, none⟩ = some (.int .i64 kn) := (hr.base.cell (p := ⟨(a.add (n * 9)).block, (a.add (n * 9)).off + 6, none⟩) hb).trans (hcc 6 (by omega))
  have c7 : w.cell? ⟨(a.add (n * 9)).block, (a.add (n * 9)).off + 7, none⟩ = some (.string kx) := (hr.base.cell (p := ⟨(a.add (n * 9)).block, (a.add (n * 9)).off + 7, none⟩) hb).trans (hcc 7 (by omega))
  have c8 : w.cell? ⟨(a.add (n * 9)).block, (a.add (n * 9)).off + 8, none⟩ = some (.slice kpA kp.length kpc) := (hr.base.cell (p := ⟨(a.add (n * 9)).block, (a.add (n * 9)).off + 8, none⟩) hb).trans (hcc 8 (by omega))
  have hni : (n : Int) < (ks.length : Int) := by omega
  have hn0 : (0 : Int) ≤ (n : Int) := by omega
  have HD := Aside0.mk (And.intro hd hd50)
  clear hr hask hcc hex1 hex2 hlev hb hd hd50
  go_enter Tryd.func43, Tryd.ntmps43
  go_upto_region 2 with (fail)
  obtain ⟨W2, hW2⟩ : ∃ W2, W2 = (w.alloc (.cells #[.int .i64 op, .slice (some a) ks.length c, .string nm, .string pr, .int .i64 v.k, .bool v.b, .int .i64 v.n, .string v.s, .slice v.A v.p.length v.c] 29)).alloc (.cells #[.int .i64 kop, .slice kA kks.length kc, .string knm, .string kpr, .int .i64 kk, .bool kb, .int .i64 kn, .string kx, .slice kpA kp.length kpc] 29) := ⟨_, rfl⟩
  obtain ⟨bx, hbx⟩ : ∃ bx, bx = w.heap.size := ⟨_, rfl⟩
  obtain ⟨bk, hbk⟩ : ∃ bk, bk = w.heap.size + 1 := ⟨_, rfl⟩
  have HX2 : Aside0 (BX W2 bx #[.int .i64 op, .slice (some a) ks.length c, .string nm, .string pr, .int .i64 v.k, .bool v.b, .int .i64 v.n, .string v.s, .slice v.A v.p.length v.c] 29) := ⟨by rw [hW2, hbx]; exact (BX.new w _ _).alloc _⟩
  have HK2 : Aside0 (BX W2 bk #[.int .i64 kop, .slice kA kks.length kc, .string knm, .string kpr, .int .i64 kk, .bool kb, .int .i64 kn, .string kx, .slice kpA kp.length kpc] 29) := ⟨by
      rw [hW2, hbk]
      have h := BX.new (w.alloc (.cells #[.int .i64 op, .slice (some a) ks.length c, .string nm, .string pr, .int .i64 v.k, .bool v.b, .int .i64 v.n, .string v.s, .slice v.A v.p.length v.c] 29)) #[.int .i64 kop, .slice kA kks.length kc, .string knm, .string kpr, .int .i64 kk, .bool kb, .int .i64 kn, .string kx, .slice kpA kp.length kpc] 29
      rwa [show (w.alloc (.cells #[.int .i64 op, .slice (some a) ks.length c, .string nm, .string pr, .int .i64 v.k, .bool v.b, .int .i64 v.n, .string v.s, .slice v.A v.p.length v.c] 29)).heap.size = w.heap.size + 1 from by simp] at h⟩
  have HR2 : Aside0 (RS w0 b T d fl W2) := ⟨by rw [hW2]; exact (HR.out.alloc _).alloc _⟩
  have HKK2 : Aside0 (KeptR b w W2) := ⟨by rw [hW2]; exact Lib.OthersKept.alloc (Lib.OthersKept.alloc (Lib.OthersKept.refl _ _ _) _) _⟩
  rw [← hW2, ← hbk, ← hbx]
  clear hW2 hbx hbk c0 c1 c2 c3 c4 c5 c6 c7 c8 hb9 hsp
  rename_i K3 hK3 KC hKC
  by_cases hge : aj ≤ L
  · have hx0 : W2.cell? ⟨bx, 0, none⟩ = some (.int .i64 op) := HX2.out.cells 0
    have hk0 : W2.cell? ⟨bk, 0, none⟩ = some (.int .i64 kop) := HK2.out.cells 0
    have hgeb : ¬ L < aj := by omega
    have HREST : ∀ (a' : Act), a' = { tmps := #[.pointer (some ⟨b, 0, none⟩), (a'.tmps.getD 1 undef), (a'.tmps.getD 2 undef), (a'.tmps.getD 3 undef), .pointer (some ⟨bx, 0, none⟩), (a'.tmps.getD 5 undef), .pointer (some ⟨bk, 0, none⟩), (a'.tmps.getD 7 undef), (a'.tmps.getD 8 undef), (a'.tmps.getD 9 undef), (a'.tmps.getD 10 undef), (a'.tmps.getD 11 undef), (a'.tmps.getD 12 undef), (a'.tmps.getD 13 undef), (a'.tmps.getD 14 undef), (a'.tmps.getD 15 undef), (a'.tmps.getD 16 undef), (a'.tmps.getD 17 undef), (a'.tmps.getD 18 undef), .bool true, (a'.tmps.getD 20 undef), (a'.tmps.getD 21 undef), (a'.tmps.getD 22 undef), (a'.tmps.getD 23 undef), (a'.tmps.getD 24 undef), (a'.tmps.getD 25 undef), (a'.tmps.getD 26 undef), (a'.tmps.getD 27 undef), (a'.tmps.getD 28 undef), (a'.tmps.getD 29 undef), (a'.tmps.getD 30 undef), (a'.tmps.getD 31 undef), (a'.tmps.getD 32 undef), (a'.tmps.getD 33 undef), (a'.tmps.getD 34 undef), (a'.tmps.getD 35 undef), (a'.tmps.getD 36 undef), (a'.tmps.getD 37 undef), (a'.tmps.getD 38 undef)], defers := [] } → KC a' (W2.drew) := by
      intro a' ha
      obtain ⟨U, hU⟩ : ∃ U : Nat → Value, U = fun i => a'.tmps.getD i undef := ⟨_, rfl⟩
      have ha2 : a' = { tmps := #[.pointer (some ⟨b, 0, none⟩), U 1, U 2, U 3, .pointer (some ⟨bx, 0, none⟩), U 5, .pointer (some ⟨bk, 0, none⟩), U 7, U 8, U 9, U 10, U 11, U 12, U 13, U 14, U 15, U 16, U 17, U 18, .bool true, U 20, U 21, U 22, U 23, U 24, U 25, U 26, U 27, U 28, U 29, U 30, U 31, U 32, U 33, U 34, U 35, U 36, U 37, U 38], defers := [] } := by rw [hU]; exact ha
      clear ha hU
      subst ha2
      apply hKC
      clear hKC
      have HR3 : Aside0 (RS w0 b T d fl W2.drew) := ⟨HR2.out.below (Below.refl _ _).drew⟩
      have HK3 : Aside0 (BX W2.drew bk #[.int .i64 kop, .slice kA kks.length kc, .string knm, .string kpr, .int .i64 kk, .bool kb, .int .i64 kn, .string kx, .slice kpA kp.length kpc] 29) := HK2
      have HKK3 : Aside0 (KeptR b w W2.drew) := HKK2
      have hkc := HK3.out.cells
      obtain ⟨W3, hW3⟩ : ∃ W3, W3 = W2.drew := ⟨_, rfl⟩
      rw [← hW3] at HR3 HK3 HKK3 hkc ⊢
      clear hW3
      have HG := Aside0.mk (HGE.out hge)
      clear hge hgeb hx0 hk0
      go_wp2_with (go_at_call 16; refine (HE1.out T fl _ HR3.out HD.out.2).mono ?_; rintro e w9 ⟨rfl, h9, k9⟩)
      first | go_end0 | refine bodyPost_ret (results_none rfl _ _ _) rfl ?_
      refine ⟨rfl, ?_, HKK3.out.trans k9⟩
      rcases HG.out with ⟨h1, h2⟩ | ⟨h1, h2⟩
      · rw [h1, h2]; exact h9
      · rw [h2]; rw [h1] at h9; exact RS.any (by simpa using h9) _
    refine wp_region_held_drew (S := (fun WW => WW.cell? ⟨bk, 0, none⟩ = some (.int .i64 kop) ∧ WW.cell? ⟨bx, 0, none⟩ = some (.int .i64 op))) (by kernel_rfl) ?_ (fun hHeld => ?_)
    · exact ⟨hk0, hx0⟩
    refine take_in (i := 0) (v := ?v0a) rfl (by kernel_rfl) (by kernel_rfl) (by kernel_rfl) (fun _ _ _ h => h) (by rfl) ?hy0a (by assumption) ?_
    case hy0a => intro WW hSw; (try dsimp only at hSw); go_simp; try with_reducible rfl
    try simp only [Act.put, List.setIfInBounds_toArray, List.set_cons_zero, List.set_cons_succ]
    refine take_in (i := 1) (v := ?v1a) rfl (by kernel_rfl) (by kernel_rfl) (by kernel_rfl) (fun _ _ _ h => h) (by rfl) ?hy1a (by assumption) ?_
    case hy1a => intro WW hSw; have h1 := hSw.1; have h2 := hSw.2; go_simp; try with_reducible rfl
    try simp only [Act.put, List.setIfInBounds_toArray, List.set_cons_zero, List.set_cons_succ]
    refine take_in (i := 3) (v := ?v3a) rfl (by kernel_rfl) (by kernel_rfl) (by kernel_rfl) (fun _ _ _ h => h) (by rfl) ?hy3a (by assumption) ?_
    case hy3a => intro WW hSw; (try dsimp only at hSw); go_simp; try with_reducible rfl
    try simp only [Act.put, List.setIfInBounds_toArray, List.set_cons_zero, List.set_cons_succ]
    refine take_in (i := 4) (v := ?v4a) rfl (by kernel_rfl) (by kernel_rfl) (by kernel_rfl) (fun _ _ _ h => h) (by rfl) ?hy4a (by assumption) ?_
    case hy4a => intro WW hSw; have h1 := hSw.1; have h2 := hSw.2; go_simp; try with_reducible rfl
    try simp only [Act.put, List.setIfInBounds_toArray, List.set_cons_zero, List.set_cons_succ]
    refine take_in (i := 5) (v := ?v5a) rfl (by kernel_rfl) (by kernel_rfl) (by kernel_rfl) (fun _ _ _ h => h) (by rfl) ?hy5a (by assumption) ?_
    case hy5a => intro WW hSw; (try dsimp only at hSw); go_simp; try with_reducible rfl
    try simp only [Act.put, List.setIfInBounds_toArray, List.set_cons_zero, List.set_cons_succ]
    refine one_step (i := 2) (by kernel_rfl) rfl (fun K hK => ?_)
    go_simp
    go_at_call 12
    refine (HLV.out _).mono ?_
    rintro e w8 ⟨rfl, rfl⟩
    refine hK.out _ _ ?_ (fun hHeld => ?_)
    · exact ⟨hk0, hx0⟩
    clear hK K
    try simp only [Act.put, List.setIfInBounds_toArray, List.set_cons_zero, List.set_cons_succ]
    refine one_step (i := 6) (by kernel_rfl) rfl (fun K hK => ?_)
    go_simp
    go_at_call 66
    refine (HA.out _).mono ?_
    rintro e w8 ⟨rfl, rfl⟩
    refine hK.out _ _ ?_ (fun hHeld => ?_)
    · exact ⟨hk0, hx0⟩
    clear hK K
    try simp only [Act.put, List.setIfInBounds_toArray, List.set_cons_zero, List.set_cons_succ]
    refine take_in (i := 7) (v := .bool true) rfl (by kernel_rfl) (by kernel_rfl) (by kernel_rfl) (fun _ _ _ h => h) (by rfl) ?hy7a (by assumption) ?_
    case hy7a => intro WW hSw; have hh := hge; go_simp; try with_reducible rfl
    try simp only [Act.put, List.setIfInBounds_toArray, List.set_cons_zero, List.set_cons_succ]
    refine wpAnyH_done (by kernel_rfl) ?_ _
    exact HREST _ rfl
  · have hx0 : W2.cell? ⟨bx, 0, none⟩ = some (.int .i64 op) := HX2.out.cells 0
    have hk0 : W2.cell? ⟨bk, 0, none⟩ = some (.int .i64 kop) := HK2.out.cells 0
    have hgeb : L < aj := by omega
    have HREST : ∀ (a' : Act), a' = { tmps := #[.pointer (some ⟨b, 0, none⟩), (a'.tmps.getD 1 undef), (a'.tmps.getD 2 undef), (a'.tmps.getD 3 undef), .pointer (some ⟨bx, 0, none⟩), (a'.tmps.getD 5 undef), .pointer (some ⟨bk, 0, none⟩), (a'.tmps.getD 7 undef), (a'.tmps.getD 8 undef), (a'.tmps.getD 9 undef), (a'.tmps.getD 10 undef), (a'.tmps.getD 11 undef), (a'.tmps.getD 12 undef), (a'.tmps.getD 13 undef), (a'.tmps.getD 14 undef), (a'.tmps.getD 15 undef), (a'.tmps.getD 16 undef), (a'.tmps.getD 17 undef), (a'.tmps.getD 18 undef), .bool false, (a'.tmps.getD 20 undef), (a'.tmps.getD 21 undef), (a'.tmps.getD 22 undef), (a'.tmps.getD 23 undef), (a'.tmps.getD 24 undef), (a'.tmps.getD 25 undef), (a'.tmps.getD 26 undef), (a'.tmps.getD 27 undef), (a'.tmps.getD 28 undef), (a'.tmps.getD 29 undef), (a'.tmps.getD 30 undef), (a'.tmps.getD 31 undef), (a'.tmps.getD 32 undef), (a'.tmps.getD 33 undef), (a'.tmps.getD 34 undef), (a'.tmps.getD 35 undef), (a'.tmps.getD 36 undef), (a'.tmps.getD 37 undef), (a'.tmps.getD 38 undef)], defers := [] } → KC a' (W2.drew) := by
      intro a' ha
      obtain ⟨U, hU⟩ : ∃ U : Nat → Value, U = fun i => a'.tmps.getD i undef := ⟨_, rfl⟩
      have ha2 : a' = { tmps := #[.pointer (some ⟨b, 0, none⟩), U 1, U 2, U 3, .pointer (some ⟨bx, 0, none⟩), U 5, .pointer (some ⟨bk, 0, none⟩), U 7, U 8, U 9, U 10, U 11, U 12, U 13, U 14, U 15, U 16, U 17, U 18, .bool false, U 20, U 21, U 22, U 23, U 24, U 25, U 26, U 27, U 28, U 29, U 30, U 31, U 32, U 33, U 34, U 35, U 36, U 37, U 38], defers := [] } := by rw [hU]; exact ha
      clear ha hU
      subst ha2
      apply hKC
      clear hKC
      have HR3 : Aside0 (RS w0 b T d fl W2.drew) := ⟨HR2.out.below (Below.refl _ _).drew⟩
      have HK3 : Aside0 (BX W2.drew bk #[.int .i64 kop, .slice kA kks.length kc, .string knm, .string kpr, .int .i64 kk, .bool kb, .int .i64 kn, .string kx, .slice kpA kp.length kpc] 29) := HK2
      have HKK3 : Aside0 (KeptR b w W2.drew) := HKK2
      have hkc := HK3.out.cells
      obtain ⟨W3, hW3⟩ : ∃ W3, W3 = W2.drew := ⟨_, rfl⟩
      rw [← hW3] at HR3 HK3 HKK3 hkc ⊢
      clear hW3
      have HG := Aside0.mk (HLT.out hge)
      clear hge hgeb hx0 hk0
      have hdown := HR3.out.down (by have := HD.out.1; omega)
      go_upto_region 5 with (go_at_call 45; refine hdown.mono ?_; rintro e w4 ⟨rfl, h4, k4⟩)
      have HK4 : Aside0 (BX w4 bk #[.int .i64 kop, .slice kA kks.length kc, .string knm, .string kpr, .int .i64 kk, .bool kb, .int .i64 kn, .string kx, .slice kpA kp.length kpc] 29) := ⟨HK3.out.keepR HR3.out k4 (by decide) (by decide)⟩
      have hsay := h4.say ⟨#[40]⟩ (by decide)
      have H4 := Aside0.mk h4
      clear hkc hdown h4
      go_upto_region 6 with (go_at_call 30; refine hsay.mono ?_; rintro e w5 ⟨rfl, h5, k5⟩)
      have HK5 : Aside0 (BX w5 bk #[.int .i64 kop, .slice kA kks.length kc, .string knm, .string kpr, .int .i64 kk, .bool kb, .int .i64 kn, .string kx, .slice kpA kp.length kpc] 29) := ⟨HK4.out.keepR H4.out k5 (by decide) (by decide)⟩
      have hkc := HK5.out.cells
      have h5b : RS w0 b (T ++ [40]) ((d + 1 : Nat) : Int) (fl || decide (50 < d + 1)) w5 := by simpa using h5
      have hcall := HE2.out _ _ _ h5b (fun e => by
            have : decide (50 < d + 1) = false := by revert e; cases fl <;> simp
            have := of_decide_eq_false this; omega)
      clear hsay h5 h5b
      go_upto_region 7 with (go_at_call 16; refine hcall.mono ?_; rintro e w6 ⟨rfl, h6, k6⟩)
      have hsay := h6.say ⟨#[41]⟩ (by decide)
      clear hkc hcall
      go_upto_region 8 with (go_at_call 30; refine hsay.mono ?_; rintro e w7 ⟨rfl, h7, k7⟩)
      have hc := h7.cells.1
      have hf := h7.free 1
      have H7 := Aside0.mk h7
      have hd0 : ((d + 1 : Nat) : Int) - 1 = (d : Int) := by omega
      have hd1 : ((d + 1 : Nat) : Int) = (d : Int) + 1 := by omega
      rw [hd1] at hc
      have hdi : (d : Int) ≤ 60 := by have := HD.out.1; omega
      have hdi0 : (0 : Int) ≤ (d : Int) := by omega
      clear hsay h7 h6 hd0 hd1
      go_wp2
      first | go_end0 | refine bodyPost_ret (results_none rfl _ _ _) rfl ?_
      refine ⟨rfl, ?_, (((((HKK3.out.trans k4).trans k5).trans k6).trans k7).trans (keptR_set b 1 w7 _))⟩
      rw [HG.out.1, HG.out.2]
      have := H7.out.deep (d : Int)
      simpa [List.append_assoc, Bool.or_assoc] using this
    refine wp_region_held_drew (S := (fun WW => WW.cell? ⟨bk, 0, none⟩ = some (.int .i64 kop) ∧ WW.cell? ⟨bx, 0, none⟩ = some (.int .i64 op))) (by kernel_rfl) ?_ (fun hHeld => ?_)
    · exact ⟨hk0, hx0⟩
    refine take_in (i := 0) (v := ?v0b) rfl (by kernel_rfl) (by kernel_rfl) (by kernel_rfl) (fun _ _ _ h => h) (by rfl) ?hy0b (by assumption) ?_
    case hy0b => intro WW hSw; (try dsimp only at hSw); go_simp; try with_reducible rfl
    try simp only [Act.put, List.setIfInBounds_toArray, List.set_cons_zero, List.set_cons_succ]
    refine take_in (i := 1) (v := ?v1b) rfl (by kernel_rfl) (by kernel_rfl) (by kernel_rfl) (fun _ _ _ h => h) (by rfl) ?hy1b (by assumption) ?_
    case hy1b => intro WW hSw; have h1 := hSw.1; have h2 := hSw.2; go_simp; try with_reducible rfl
    try simp only [Act.put, List.setIfInBounds_toArray, List.set_cons_zero, List.set_cons_succ]
    refine take_in (i := 3) (v := ?v3b) rfl (by kernel_rfl) (by kernel_rfl) (by kernel_rfl) (fun _ _ _ h => h) (by rfl) ?hy3b (by assumption) ?_
    case hy3b => intro WW hSw; (try dsimp only at hSw); go_simp; try with_reducible rfl
    try simp only [Act.put, List.setIfInBounds_toArray, List.set_cons_zero, List.set_cons_succ]
    refine take_in (i := 4) (v := ?v4b) rfl (by kernel_rfl) (by kernel_rfl) (by kernel_rfl) (fun _ _ _ h => h) (by rfl) ?hy4b (by assumption) ?_
    case hy4b => intro WW hSw; have h1 := hSw.1; have h2 := hSw.2; go_simp; try with_reducible rfl
    try simp only [Act.put, List.setIfInBounds_toArray, List.set_cons_zero, List.set_cons_succ]
    refine take_in (i := 5) (v := ?v5b) rfl (by kernel_rfl) (by kernel_rfl) (by kernel_rfl) (fun _ _ _ h => h) (by rfl) ?hy5b (by assumption) ?_
    case hy5b => intro WW hSw; (try dsimp only at hSw); go_simp; try with_reducible rfl
    try simp only [Act.put, List.setIfInBounds_toArray, List.set_cons_zero, List.set_cons_succ]
    refine one_step (i := 2) (by kernel_rfl) rfl (fun K hK => ?_)
    go_simp
    go_at_call 12
    refine (HLV.out _).mono ?_
    rintro e w8 ⟨rfl, rfl⟩
    refine hK.out _ _ ?_ (fun hHeld => ?_)
    · exact ⟨hk0, hx0⟩
    clear hK K
    try simp only [Act.put, List.setIfInBounds_toArray, List.set_cons_zero, List.set_cons_succ]
    refine one_step (i := 6) (by kernel_rfl) rfl (fun K hK => ?_)
    go_simp
    go_at_call 66
    refine (HA.out _).mono ?_
    rintro e w8 ⟨rfl, rfl⟩
    refine hK.out _ _ ?_ (fun hHeld => ?_)
    · exact ⟨hk0, hx0⟩
    clear hK K
    try simp only [Act.put, List.setIfInBounds_toArray, List.set_cons_zero, List.set_cons_succ]
    refine take_in (i := 7) (v := .bool false) rfl (by kernel_rfl) (by kernel_rfl) (by kernel_rfl) (fun _ _ _ h => h) (by rfl) ?hy7b (by assumption) ?_
    case hy7b => intro WW hSw; have hh := hge; go_simp; try with_reducible rfl
    try simp only [Act.put, List.setIfInBounds_toArray, List.set_cons_zero, List.set_cons_succ]
    refine wpAnyH_done (by kernel_rfl) ?_ _
    exact HREST _ rfl
end Go.Proofs.YtkchpgjjkckfbaaDoor
