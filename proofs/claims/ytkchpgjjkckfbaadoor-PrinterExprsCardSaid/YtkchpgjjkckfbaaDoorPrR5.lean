/- The document's fields, whole; a function's call. -/
import Derived.Test.YtkchpgjjkckfbaaDoorPrR3
import Derived.Test.YtkchpgjjkckfbaaDoorPrR4
set_option linter.unusedVariables false
set_option linter.unusedSimpArgs false
namespace Go.Proofs.YtkchpgjjkckfbaaDoor
open Go.RowKit

def fldB (op : Int) (n : Nat) (nm pr : ByteArray) (v : VX) : Bool :=
  match shpD op with
  | none => false
  | some s => decide (n = s.asks.length) && (if op = 1 then decide (nm.size = 0) && (decide (pr.size = 0) && (rightB v.k v.b v.n v.s v.p && (decide (v.k ≤ 3) && !(decide (v.k = 2) && decide (v.n < 0))))) else if op = 2 then rightB v.k v.b v.n v.s v.p && (decide (v.k = 0) && decide (pr.size = 0)) else if op = 3 then rightB v.k v.b v.n v.s v.p && decide (v.k = 0) else rightB v.k v.b v.n v.s v.p && (decide (v.k = 0) && (decide (nm.size = 0) && decide (pr.size = 0))))
theorem rkids_any {op : Int} {s : Shp} (h : shpD op = some s) (w : World) : Calls Tryd.prog 63 #[.int .i64 op] w fun e w' => e = .returned (.int .i64 s.asks.length) ∧ w = w' := by
  by_cases h1 : op = 1
  · subst h1
    obtain rfl : (⟨8, [], [], [], []⟩ : Shp) = s := Option.some.inj h
    exact rkids_1 w
  by_cases h2 : op = 2
  · subst h2
    obtain rfl : (⟨8, [], [], [], []⟩ : Shp) = s := Option.some.inj h
    exact rkids_2 w
  by_cases h3 : op = 3
  · subst h3
    obtain rfl : (⟨8, [], [], [], []⟩ : Shp) = s := Option.some.inj h
    exact rkids_3 w
  by_cases h4 : op = 4
  · subst h4
    obtain rfl : (⟨1, [1, 2], [], [32, 79, 82, 32], []⟩ : Shp) = s := Option.some.inj h
    exact rkids_4 w
  by_cases h5 : op = 5
  · subst h5
    obtain rfl : (⟨2, [2, 3], [], [32, 65, 78, 68, 32], []⟩ : Shp) = s := Option.some.inj h
    exact rkids_5 w
  by_cases h6 : op = 6
  · subst h6
    obtain rfl : (⟨4, [5, 5], [], [32, 61, 32], []⟩ : Shp) = s := Option.some.inj h
    exact rkids_6 w
  by_cases h7 : op = 7
  · subst h7
    obtain rfl : (⟨4, [5, 5], [], [32, 60, 62, 32], []⟩ : Shp) = s := Option.some.inj h
    exact rkids_7 w
  by_cases h8 : op = 8
  · subst h8
    obtain rfl : (⟨4, [5, 5], [], [32, 60, 32], []⟩ : Shp) = s := Option.some.inj h
    exact rkids_8 w
  by_cases h9 : op = 9
  · subst h9
    obtain rfl : (⟨4, [5, 5], [], [32, 60, 61, 32], []⟩ : Shp) = s := Option.some.inj h
    exact rkids_9 w
  by_cases h10 : op = 10
  · subst h10
    obtain rfl : (⟨4, [5, 5], [], [32, 62, 32], []⟩ : Shp) = s := Option.some.inj h
    exact rkids_10 w
  by_cases h11 : op = 11
  · subst h11
    obtain rfl : (⟨4, [5, 5], [], [32, 62, 61, 32], []⟩ : Shp) = s := Option.some.inj h
    exact rkids_11 w
  by_cases h12 : op = 12
  · subst h12
    obtain rfl : (⟨5, [5, 6], [], [32, 43, 32], []⟩ : Shp) = s := Option.some.inj h
    exact rkids_12 w
  by_cases h13 : op = 13
  · subst h13
    obtain rfl : (⟨5, [5, 6], [], [32, 45, 32], []⟩ : Shp) = s := Option.some.inj h
    exact rkids_13 w
  by_cases h14 : op = 14
  · subst h14
    obtain rfl : (⟨6, [6, 7], [], [32, 42, 32], []⟩ : Shp) = s := Option.some.inj h
    exact rkids_14 w
  by_cases h15 : op = 15
  · subst h15
    obtain rfl : (⟨6, [6, 7], [], [32, 47, 32], []⟩ : Shp) = s := Option.some.inj h
    exact rkids_15 w
  by_cases h16 : op = 16
  · subst h16
    obtain rfl : (⟨6, [6, 7], [], [32, 37, 32], []⟩ : Shp) = s := Option.some.inj h
    exact rkids_16 w
  by_cases h17 : op = 17
  · subst h17
    obtain rfl : (⟨3, [3], [78, 79, 84, 32], [], []⟩ : Shp) = s := Option.some.inj h
    exact rkids_17 w
  by_cases h18 : op = 18
  · subst h18
    obtain rfl : (⟨7, [7], [45], [], []⟩ : Shp) = s := Option.some.inj h
    exact rkids_18 w
  by_cases h19 : op = 19
  · subst h19
    obtain rfl : (⟨4, [5], [], [], [32, 73, 83, 32, 78, 85, 76, 76]⟩ : Shp) = s := Option.some.inj h
    exact rkids_19 w
  by_cases h20 : op = 20
  · subst h20
    obtain rfl : (⟨4, [5], [], [], [32, 73, 83, 32, 78, 79, 84, 32, 78, 85, 76, 76]⟩ : Shp) = s := Option.some.inj h
    exact rkids_20 w
  by_cases h21 : op = 21
  · subst h21
    obtain rfl : (⟨8, [1], [76, 69, 78, 71, 84, 72, 40], [], [41]⟩ : Shp) = s := Option.some.inj h
    exact rkids_21 w
  by_cases h22 : op = 22
  · subst h22
    obtain rfl : (⟨8, [1], [67, 79, 85, 78, 84, 40], [], [41]⟩ : Shp) = s := Option.some.inj h
    exact rkids_22 w
  by_cases h23 : op = 23
  · subst h23
    obtain rfl : (⟨8, [1], [83, 85, 77, 40], [], [41]⟩ : Shp) = s := Option.some.inj h
    exact rkids_23 w
  by_cases h24 : op = 24
  · subst h24
    obtain rfl : (⟨8, [1], [77, 73, 78, 40], [], [41]⟩ : Shp) = s := Option.some.inj h
    exact rkids_24 w
  by_cases h25 : op = 25
  · subst h25
    obtain rfl : (⟨8, [1], [77, 65, 88, 40], [], [41]⟩ : Shp) = s := Option.some.inj h
    exact rkids_25 w
  by_cases h26 : op = 26
  · subst h26
    obtain rfl : (⟨8, [], [67, 79, 85, 78, 84, 40, 42], [], [41]⟩ : Shp) = s := Option.some.inj h
    exact rkids_26 w
  unfold shpD at h
  rw [if_neg h1, if_neg h2, if_neg h3, if_neg h4, if_neg h5, if_neg h6, if_neg h7, if_neg h8, if_neg h9, if_neg h10, if_neg h11, if_neg h12, if_neg h13, if_neg h14, if_neg h15, if_neg h16, if_neg h17, if_neg h18, if_neg h19, if_neg h20, if_neg h21, if_neg h22, if_neg h23, if_neg h24, if_neg h25, if_neg h26] at h
  cases h
theorem shp_range {op : Int} : (shpD op = none → op < 1 ∨ 26 < op) ∧ (∀ s, shpD op = some s → 1 ≤ op ∧ op ≤ 26) := by
  refine ⟨fun h => ?_, fun s h => ?_⟩
  · have hh : (op < 1 ∨ 26 < op) ∨ (op = 1 ∨ op = 2 ∨ op = 3 ∨ op = 4 ∨ op = 5 ∨ op = 6 ∨ op = 7 ∨ op = 8 ∨ op = 9 ∨ op = 10 ∨ op = 11 ∨ op = 12 ∨ op = 13 ∨ op = 14 ∨ op = 15 ∨ op = 16 ∨ op = 17 ∨ op = 18 ∨ op = 19 ∨ op = 20 ∨ op = 21 ∨ op = 22 ∨ op = 23 ∨ op = 24 ∨ op = 25 ∨ op = 26) := by omega
    rcases hh with hh | hh
    · exact hh
    · exfalso
      rcases hh with rfl | rfl | rfl | rfl | rfl | rfl | rfl | rfl | rfl | rfl | rfl | rfl | rfl | rfl | rfl | rfl | rfl | rfl | rfl | rfl | rfl | rfl | rfl | rfl | rfl | rfl <;> cases h
  · have hh : ¬ (op < 1 ∨ 26 < op) := fun hq => by
      unfold shpD at h
      rw [if_neg (show ¬ op = 1 by omega), if_neg (show ¬ op = 2 by omega), if_neg (show ¬ op = 3 by omega), if_neg (show ¬ op = 4 by omega), if_neg (show ¬ op = 5 by omega), if_neg (show ¬ op = 6 by omega), if_neg (show ¬ op = 7 by omega), if_neg (show ¬ op = 8 by omega), if_neg (show ¬ op = 9 by omega), if_neg (show ¬ op = 10 by omega), if_neg (show ¬ op = 11 by omega), if_neg (show ¬ op = 12 by omega), if_neg (show ¬ op = 13 by omega), if_neg (show ¬ op = 14 by omega), if_neg (show ¬ op = 15 by omega), if_neg (show ¬ op = 16 by omega), if_neg (show ¬ op = 17 by omega), if_neg (show ¬ op = 18 by omega), if_neg (show ¬ op = 19 by omega), if_neg (show ¬ op = 20 by omega), if_neg (show ¬ op = 21 by omega), if_neg (show ¬ op = 22 by omega), if_neg (show ¬ op = 23 by omega), if_neg (show ¬ op = 24 by omega), if_neg (show ¬ op = 25 by omega), if_neg (show ¬ op = 26 by omega)] at h
      cases h
    omega
theorem rfields_any (op : Int) (A : Option Addr) (n c : Nat) (nm pr : ByteArray) (v : VX) (w : World) (hp : ReadsI w v.A v.p) (hs : v.s.size ≤ 140737488351232) (hT : Lib.Utf8Tabs 1 2 w) :
    Calls Tryd.prog 41 #[.agg #[.int .i64 op, .slice A n c, .string nm, .string pr, .int .i64 v.k, .bool v.b, .int .i64 v.n, .string v.s, .slice v.A v.p.length v.c]] w fun e w' => e = .returned (.bool (fldB op n nm pr v)) ∧ Below w.heap.size w w' := by
  have hR : ∀ W, Below w.heap.size w W → Calls Tryd.prog 64 #[.agg #[.int .i64 v.k, .bool v.b, .int .i64 v.n, .string v.s, .slice v.A v.p.length v.c]] W fun e w' => e = .returned (.bool (rightB v.k v.b v.n v.s v.p)) ∧ Below W.heap.size W w' := fun W hW => rright_any v.k v.n v.b v.s v.A v.p v.c W (hp.below hW) (by omega) (Utf8Tabs_below hT hW)
  unfold fldB
  cases hq : shpD op with
  | none =>
    rcases shp_range.1 hq with h | h
    · exact fields_lo op A n c nm pr v.k v.b v.n v.s v.A v.p v.c w _ hR h
    · exact fields_hi op A n c nm pr v.k v.b v.n v.s v.A v.p v.c w _ hR (by omega) h
  | some s =>
    have hr := shp_range.2 s hq
    have hk := fun W => rkids_any hq W
    dsimp only
    by_cases hn : n = s.asks.length
    · rw [← hn] at hk
      rw [decide_eq_true hn, Bool.true_and]
      by_cases h1 : op = 1
      · subst h1
        rw [if_pos rfl]
        exact fields_1 A n c nm pr v.k v.b v.n v.s v.A v.p v.c w _ hR hk _ rfl _ rfl _ rfl _ rfl _ rfl _ rfl
      rw [if_neg h1]
      by_cases h2 : op = 2
      · subst h2
        rw [if_pos rfl]
        exact fields_2 A n c nm pr v.k v.b v.n v.s v.A v.p v.c w _ hR hk _ rfl _ rfl
      rw [if_neg h2]
      by_cases h3 : op = 3
      · subst h3
        rw [if_pos rfl]
        exact fields_3 A n c nm pr v.k v.b v.n v.s v.A v.p v.c w _ hR hk _ rfl
      rw [if_neg h3]
      exact fields_x op A n c nm pr v.k v.b v.n v.s v.A v.p v.c w _ hR (by omega) (by omega) hk _ rfl _ rfl _ rfl
    · rw [decide_eq_false hn, Bool.false_and]
      have hn2 : ¬ (n : Int) = (s.asks.length : Int) := by omega
      exact fields_len op A n c nm pr v.k v.b v.n v.s v.A v.p v.c w _ hR s.asks.length (by omega) (by omega) hk (by rw [bne_iff_ne]; exact hn2) hn2
set_option maxRecDepth 100000 in
set_option maxHeartbeats 3200000 in
theorem rcall_21 (w0 : World) (b : Nat) (T : List UInt8) (A : Option Addr) (c : Nat) (nm pr : ByteArray) (v : VX) (d : Nat) (w : World) (k0 : XD) (hr : RS w0 b T d false w) (hd : d ≤ 50) (hx : ReadsXD w0 (.mk 21 A [k0] c nm pr v)) (hk : RefOk w0 b k0) :
    Calls Tryd.prog 46 #[.pointer (some ⟨b, 0, none⟩), .agg #[.int .i64 21, .slice A 1 c, .string nm, .string pr, .int .i64 v.k, .bool v.b, .int .i64 v.n, .string v.s, .slice v.A v.p.length v.c]] w fun e w' => e = .returned (.tuple #[]) ∧ (RS w0 b (T ++ ([76, 69, 78, 71, 84, 72, 40] ++ (textX k0 ++ [41]))) d (decide (50 < d + 1) || !okX k0 (d + 1)) w' ∧ KeptR b w w') := by
  have HR := Aside0.mk hr
  obtain ⟨a, hAe, hb, hsp, hcc⟩ := hx.row 0 (by simp)
  subst hAe
  rw [show (0 * 9 : Nat) = 0 from rfl] at hb hsp hcc
  have e00 : a.add 0 = a := rfl
  rw [e00] at hb hsp hcc
  have hex := hk
  obtain ⟨ok2, hok2⟩ : ∃ ok2, ok2 = okX k0 (d + 1) := ⟨_, rfl⟩
  obtain ⟨tk, htk⟩ : ∃ tk, tk = textX k0 := ⟨_, rfl⟩
  have hex2 := fun (T : List UInt8) (fl : Bool) (w : World) => hex (d + 1) T fl w
  rw [← hok2, ← htk] at hex2 ⊢
  have hcc2 : ∀ i, i < 9 → w0.cell? ⟨a.block, a.off + i, none⟩ = k0.cells[i]? := hcc
  clear hok2 htk hex hk hx hcc
  obtain ⟨kop, kA, kks, kc, knm, kpr, ⟨kk, kb, kn, kx, kpA, kp, kpc⟩⟩ := k0
  dsimp only [XD.op, XD.A, XD.ks, XD.c, XD.nm, XD.pr, XD.v] at hex2
  have HE2 := Aside0.mk hex2
  have HCC : Aside0 (∀ W, Below w0.heap.size w0 W → a.block < W.heap.size ∧ a.spot = none ∧ W.cell? a = some (.int .i64 kop) ∧ W.cell? ⟨a.block, a.off + 1, none⟩ = some (.slice kA kks.length kc) ∧ W.cell? ⟨a.block, a.off + 2, none⟩ = some (.string knm) ∧ W.cell? ⟨a.block, a.off + 3, none⟩ = some (.string kpr) ∧ W.cell? ⟨a.block, a.off + 4, none⟩ = some (.int .i64 kk) ∧ W.cell? ⟨a.block, a.off + 5, none⟩ = some (.bool kb) ∧ W.cell? ⟨a.block, a.off + 6, none⟩ = some (.int .i64 kn) ∧ W.cell? ⟨a.block, a.off + 7, none⟩ = some (.string kx) ∧ W.cell? ⟨a.block, a.off + 8, none⟩ = some (.slice kpA kp.length kpc)) := ⟨fun W hW => ⟨Nat.lt_of_lt_of_le hb hW.size, hsp, by
      have e0 : (⟨a.block, a.off + 0, none⟩ : Addr) = a := by rw [← hsp]; rfl
      rw [← e0]
      exact (hW.cell (p := ⟨a.block, a.off + 0, none⟩) hb).trans (hcc2 0 (by omega)), (hW.cell (p := ⟨a.block, a.off + 1, none⟩) hb).trans (hcc2 1 (by omega)), (hW.cell (p := ⟨a.block, a.off + 2, none⟩) hb).trans (hcc2 2 (by omega)), (hW.cell (p := ⟨a.block, a.off + 3, none⟩) hb).trans (hcc2 3 (by omega)), (hW.cell (p := ⟨a.block, a.off + 4, none⟩) hb).trans (hcc2 4 (by omega)), (hW.cell (p := ⟨a.block, a.off + 5, none⟩) hb).trans (hcc2 5 (by omega)), (hW.cell (p := ⟨a.block, a.off + 6, none⟩) hb).trans (hcc2 6 (by omega)), (hW.cell (p := ⟨a.block, a.off + 7, none⟩) hb).trans (hcc2 7 (by omega)), (hW.cell (p := ⟨a.block, a.off + 8, none⟩) hb).trans (hcc2 8 (by omega))⟩⟩
  clear hex2 hcc2 hb hsp
  have HX0 := BX.new w #[.int .i64 21, .slice (some a) 1 c, .string nm, .string pr, .int .i64 v.k, .bool v.b, .int .i64 v.n, .string v.s, .slice v.A v.p.length v.c] 29
  have hdown := (HR.out.alloc (.cells #[.int .i64 21, .slice (some a) 1 c, .string nm, .string pr, .int .i64 v.k, .bool v.b, .int .i64 v.n, .string v.s, .slice v.A v.p.length v.c] 29)).down (by omega)
  clear hr
  go_enter Tryd.func46, Tryd.ntmps46
  go_upto_region 2 with (go_at_call 45; refine hdown.mono ?_; rintro e w1 ⟨rfl, h1, k1⟩)
  have HX1 : Aside0 (BX w1 w.heap.size #[.int .i64 21, .slice (some a) 1 c, .string nm, .string pr, .int .i64 v.k, .bool v.b, .int .i64 v.n, .string v.s, .slice v.A v.p.length v.c] 29) := ⟨HX0.keepR (HR.out.alloc _) k1 (by decide) (by decide)⟩
  have HKK1 : Aside0 (KeptR b w w1) := ⟨(Lib.OthersKept.alloc (Lib.OthersKept.refl _ _ _) _).trans k1⟩
  have H1 := Aside0.mk h1
  have hsay := h1.say ⟨#[76, 69, 78, 71, 84, 72, 40]⟩ (by decide)
  have hbx := HX1.out.cells
  clear hdown HX0 k1 h1
  go_upto_region 12 with (go_at_call 30; refine hsay.mono ?_; rintro e w2 ⟨rfl, h2, k2⟩)
  have HX2 : Aside0 (BX w2 w.heap.size #[.int .i64 21, .slice (some a) 1 c, .string nm, .string pr, .int .i64 v.k, .bool v.b, .int .i64 v.n, .string v.s, .slice v.A v.p.length v.c] 29) := ⟨HX1.out.keepR H1.out k2 (by decide) (by decide)⟩
  have hbx := HX2.out.cells
  obtain ⟨hb, hsp, c0, c1, c2, c3, c4, c5, c6, c7, c8⟩ := HCC.out w2 h2.base
  have h2b : RS w0 b (T ++ [76, 69, 78, 71, 84, 72, 40]) ((d + 1 : Nat) : Int) (decide (50 < d + 1)) w2 := by simpa using h2
  have hcall := HE2.out _ _ _ h2b (fun e => by have := of_decide_eq_false e; omega)
  clear hsay h2 h2b
  go_upto_region 15 with (go_at_call 16; refine hcall.mono ?_; rintro e w3 ⟨rfl, h3, k3⟩)
  have hsay := h3.say ⟨#[41]⟩ (by decide)
  clear hcall h3 hb hsp c0 c1 c2 c3 c4 c5 c6 c7 c8 hbx
  go_upto_region 16 with (go_at_call 30; refine hsay.mono ?_; rintro e w4 ⟨rfl, h4, k4⟩)
  have HZ : Aside0 (RS w0 b _ ((d + 1 : Nat) : Int) _ w4) := ⟨h4⟩
  have HKZ : Aside0 (KeptR b w w4) := ⟨((HKK1.out.trans k2).trans k3).trans k4⟩
  clear hsay h4 k2 k3 k4
  have hc := HZ.out.cells.1
  have hf := HZ.out.free 1
  have hd1 : ((d + 1 : Nat) : Int) = (d : Int) + 1 := by omega
  rw [hd1] at hc
  have hdi : (d : Int) ≤ 60 := by omega
  have hdi0 : (0 : Int) ≤ (d : Int) := by omega
  clear hd1
  go_wp2
  first | go_end0 | refine bodyPost_ret (results_none rfl _ _ _) rfl ?_
  refine ⟨rfl, ?_, HKZ.out.trans (keptR_set b 1 w4 _)⟩
  have := HZ.out.deep (d : Int)
  simpa [List.append_assoc, Bool.or_assoc] using this
set_option maxRecDepth 100000 in
set_option maxHeartbeats 3200000 in
theorem rcall_22 (w0 : World) (b : Nat) (T : List UInt8) (A : Option Addr) (c : Nat) (nm pr : ByteArray) (v : VX) (d : Nat) (w : World) (k0 : XD) (hr : RS w0 b T d false w) (hd : d ≤ 50) (hx : ReadsXD w0 (.mk 22 A [k0] c nm pr v)) (hk : RefOk w0 b k0) :
    Calls Tryd.prog 46 #[.pointer (some ⟨b, 0, none⟩), .agg #[.int .i64 22, .slice A 1 c, .string nm, .string pr, .int .i64 v.k, .bool v.b, .int .i64 v.n, .string v.s, .slice v.A v.p.length v.c]] w fun e w' => e = .returned (.tuple #[]) ∧ (RS w0 b (T ++ ([67, 79, 85, 78, 84, 40] ++ (textX k0 ++ [41]))) d (decide (50 < d + 1) || !okX k0 (d + 1)) w' ∧ KeptR b w w') := by
  have HR := Aside0.mk hr
  obtain ⟨a, hAe, hb, hsp, hcc⟩ := hx.row 0 (by simp)
  subst hAe
  rw [show (0 * 9 : Nat) = 0 from rfl] at hb hsp hcc
  have e00 : a.add 0 = a := rfl
  rw [e00] at hb hsp hcc
  have hex := hk
  obtain ⟨ok2, hok2⟩ : ∃ ok2, ok2 = okX k0 (d + 1) := ⟨_, rfl⟩
  obtain ⟨tk, htk⟩ : ∃ tk, tk = textX k0 := ⟨_, rfl⟩
  have hex2 := fun (T : List UInt8) (fl : Bool) (w : World) => hex (d + 1) T fl w
  rw [← hok2, ← htk] at hex2 ⊢
  have hcc2 : ∀ i, i < 9 → w0.cell? ⟨a.block, a.off + i, none⟩ = k0.cells[i]? := hcc
  clear hok2 htk hex hk hx hcc
  obtain ⟨kop, kA, kks, kc, knm, kpr, ⟨kk, kb, kn, kx, kpA, kp, kpc⟩⟩ := k0
  dsimp only [XD.op, XD.A, XD.ks, XD.c, XD.nm, XD.pr, XD.v] at hex2
  have HE2 := Aside0.mk hex2
  have HCC : Aside0 (∀ W, Below w0.heap.size w0 W → a.block < W.heap.size ∧ a.spot = none ∧ W.cell? a = some (.int .i64 kop) ∧ W.cell? ⟨a.block, a.off + 1, none⟩ = some (.slice kA kks.length kc) ∧ W.cell? ⟨a.block, a.off + 2, none⟩ = some (.string knm) ∧ W.cell? ⟨a.block, a.off + 3, none⟩ = some (.string kpr) ∧ W.cell? ⟨a.block, a.off + 4, none⟩ = some (.int .i64 kk) ∧ W.cell? ⟨a.block, a.off + 5, none⟩ = some (.bool kb) ∧ W.cell? ⟨a.block, a.off + 6, none⟩ = some (.int .i64 kn) ∧ W.cell? ⟨a.block, a.off + 7, none⟩ = some (.string kx) ∧ W.cell? ⟨a.block, a.off + 8, none⟩ = some (.slice kpA kp.length kpc)) := ⟨fun W hW => ⟨Nat.lt_of_lt_of_le hb hW.size, hsp, by
      have e0 : (⟨a.block, a.off + 0, none⟩ : Addr) = a := by rw [← hsp]; rfl
      rw [← e0]
      exact (hW.cell (p := ⟨a.block, a.off + 0, none⟩) hb).trans (hcc2 0 (by omega)), (hW.cell (p := ⟨a.block, a.off + 1, none⟩) hb).trans (hcc2 1 (by omega)), (hW.cell (p := ⟨a.block, a.off + 2, none⟩) hb).trans (hcc2 2 (by omega)), (hW.cell (p := ⟨a.block, a.off + 3, none⟩) hb).trans (hcc2 3 (by omega)), (hW.cell (p := ⟨a.block, a.off + 4, none⟩) hb).trans (hcc2 4 (by omega)), (hW.cell (p := ⟨a.block, a.off + 5, none⟩) hb).trans (hcc2 5 (by omega)), (hW.cell (p := ⟨a.block, a.off + 6, none⟩) hb).trans (hcc2 6 (by omega)), (hW.cell (p := ⟨a.block, a.off + 7, none⟩) hb).trans (hcc2 7 (by omega)), (hW.cell (p := ⟨a.block, a.off + 8, none⟩) hb).trans (hcc2 8 (by omega))⟩⟩
  clear hex2 hcc2 hb hsp
  have HX0 := BX.new w #[.int .i64 22, .slice (some a) 1 c, .string nm, .string pr, .int .i64 v.k, .bool v.b, .int .i64 v.n, .string v.s, .slice v.A v.p.length v.c] 29
  have hdown := (HR.out.alloc (.cells #[.int .i64 22, .slice (some a) 1 c, .string nm, .string pr, .int .i64 v.k, .bool v.b, .int .i64 v.n, .string v.s, .slice v.A v.p.length v.c] 29)).down (by omega)
  clear hr
  go_enter Tryd.func46, Tryd.ntmps46
  go_upto_region 2 with (go_at_call 45; refine hdown.mono ?_; rintro e w1 ⟨rfl, h1, k1⟩)
  have HX1 : Aside0 (BX w1 w.heap.size #[.int .i64 22, .slice (some a) 1 c, .string nm, .string pr, .int .i64 v.k, .bool v.b, .int .i64 v.n, .string v.s, .slice v.A v.p.length v.c] 29) := ⟨HX0.keepR (HR.out.alloc _) k1 (by decide) (by decide)⟩
  have HKK1 : Aside0 (KeptR b w w1) := ⟨(Lib.OthersKept.alloc (Lib.OthersKept.refl _ _ _) _).trans k1⟩
  have H1 := Aside0.mk h1
  have hsay := h1.say ⟨#[67, 79, 85, 78, 84, 40]⟩ (by decide)
  have hbx := HX1.out.cells
  clear hdown HX0 k1 h1
  go_upto_region 12 with (go_at_call 30; refine hsay.mono ?_; rintro e w2 ⟨rfl, h2, k2⟩)
  have HX2 : Aside0 (BX w2 w.heap.size #[.int .i64 22, .slice (some a) 1 c, .string nm, .string pr, .int .i64 v.k, .bool v.b, .int .i64 v.n, .string v.s, .slice v.A v.p.length v.c] 29) := ⟨HX1.out.keepR H1.out k2 (by decide) (by decide)⟩
  have hbx := HX2.out.cells
  obtain ⟨hb, hsp, c0, c1, c2, c3, c4, c5, c6, c7, c8⟩ := HCC.out w2 h2.base
  have h2b : RS w0 b (T ++ [67, 79, 85, 78, 84, 40]) ((d + 1 : Nat) : Int) (decide (50 < d + 1)) w2 := by simpa using h2
  have hcall := HE2.out _ _ _ h2b (fun e => by have := of_decide_eq_false e; omega)
  clear hsay h2 h2b
  go_upto_region 15 with (go_at_call 16; refine hcall.mono ?_; rintro e w3 ⟨rfl, h3, k3⟩)
  have hsay := h3.say ⟨#[41]⟩ (by decide)
  clear hcall h3 hb hsp c0 c1 c2 c3 c4 c5 c6 c7 c8 hbx
  go_upto_region 16 with (go_at_call 30; refine hsay.mono ?_; rintro e w4 ⟨rfl, h4, k4⟩)
  have HZ : Aside0 (RS w0 b _ ((d + 1 : Nat) : Int) _ w4) := ⟨h4⟩
  have HKZ : Aside0 (KeptR b w w4) := ⟨((HKK1.out.trans k2).trans k3).trans k4⟩
  clear hsay h4 k2 k3 k4
  have hc := HZ.out.cells.1
  have hf := HZ.out.free 1
  have hd1 : ((d + 1 : Nat) : Int) = (d : Int) + 1 := by omega
  rw [hd1] at hc
  have hdi : (d : Int) ≤ 60 := by omega
  have hdi0 : (0 : Int) ≤ (d : Int) := by omega
  clear hd1
  go_wp2
  first | go_end0 | refine bodyPost_ret (results_none rfl _ _ _) rfl ?_
  refine ⟨rfl, ?_, HKZ.out.trans (keptR_set b 1 w4 _)⟩
  have := HZ.out.deep (d : Int)
  simpa [List.append_assoc, Bool.or_assoc] using this
set_option maxRecDepth 100000 in
set_option maxHeartbeats 3200000 in
theorem rcall_23 (w0 : World) (b : Nat) (T : List UInt8) (A : Option Addr) (c : Nat) (nm pr : ByteArray) (v : VX) (d : Nat) (w : World) (k0 : XD) (hr : RS w0 b T d false w) (hd : d ≤ 50) (hx : ReadsXD w0 (.mk 23 A [k0] c nm pr v)) (hk : RefOk w0 b k0) :
    Calls Tryd.prog 46 #[.pointer (some ⟨b, 0, none⟩), .agg #[.int .i64 23, .slice A 1 c, .string nm, .string pr, .int .i64 v.k, .bool v.b, .int .i64 v.n, .string v.s, .slice v.A v.p.length v.c]] w fun e w' => e = .returned (.tuple #[]) ∧ (RS w0 b (T ++ ([83, 85, 77, 40] ++ (textX k0 ++ [41]))) d (decide (50 < d + 1) || !okX k0 (d + 1)) w' ∧ KeptR b w w') := by
  have HR := Aside0.mk hr
  obtain ⟨a, hAe, hb, hsp, hcc⟩ := hx.row 0 (by simp)
  subst hAe
  rw [show (0 * 9 : Nat) = 0 from rfl] at hb hsp hcc
  have e00 : a.add 0 = a := rfl
  rw [e00] at hb hsp hcc
  have hex := hk
  obtain ⟨ok2, hok2⟩ : ∃ ok2, ok2 = okX k0 (d + 1) := ⟨_, rfl⟩
  obtain ⟨tk, htk⟩ : ∃ tk, tk = textX k0 := ⟨_, rfl⟩
  have hex2 := fun (T : List UInt8) (fl : Bool) (w : World) => hex (d + 1) T fl w
  rw [← hok2, ← htk] at hex2 ⊢
  have hcc2 : ∀ i, i < 9 → w0.cell? ⟨a.block, a.off + i, none⟩ = k0.cells[i]? := hcc
  clear hok2 htk hex hk hx hcc
  obtain ⟨kop, kA, kks, kc, knm, kpr, ⟨kk, kb, kn, kx, kpA, kp, kpc⟩⟩ := k0
  dsimp only [XD.op, XD.A, XD.ks, XD.c, XD.nm, XD.pr, XD.v] at hex2
  have HE2 := Aside0.mk hex2
  have HCC : Aside0 (∀ W, Below w0.heap.size w0 W → a.block < W.heap.size ∧ a.spot = none ∧ W.cell? a = some (.int .i64 kop) ∧ W.cell? ⟨a.block, a.off + 1, none⟩ = some (.slice kA kks.length kc) ∧ W.cell? ⟨a.block, a.off + 2, none⟩ = some (.string knm) ∧ W.cell? ⟨a.block, a.off + 3, none⟩ = some (.string kpr) ∧ W.cell? ⟨a.block, a.off + 4, none⟩ = some (.int .i64 kk) ∧ W.cell? ⟨a.block, a.off + 5, none⟩ = some (.bool kb) ∧ W.cell? ⟨a.block, a.off + 6, none⟩ = some (.int .i64 kn) ∧ W.cell? ⟨a.block, a.off + 7, none⟩ = some (.string kx) ∧ W.cell? ⟨a.block, a.off + 8, none⟩ = some (.slice kpA kp.length kpc)) := ⟨fun W hW => ⟨Nat.lt_of_lt_of_le hb hW.size, hsp, by
      have e0 : (⟨a.block, a.off + 0, none⟩ : Addr) = a := by rw [← hsp]; rfl
      rw [← e0]
      exact (hW.cell (p := ⟨a.block, a.off + 0, none⟩) hb).trans (hcc2 0 (by omega)), (hW.cell (p := ⟨a.block, a.off + 1, none⟩) hb).trans (hcc2 1 (by omega)), (hW.cell (p := ⟨a.block, a.off + 2, none⟩) hb).trans (hcc2 2 (by omega)), (hW.cell (p := ⟨a.block, a.off + 3, none⟩) hb).trans (hcc2 3 (by omega)), (hW.cell (p := ⟨a.block, a.off + 4, none⟩) hb).trans (hcc2 4 (by omega)), (hW.cell (p := ⟨a.block, a.off + 5, none⟩) hb).trans (hcc2 5 (by omega)), (hW.cell (p := ⟨a.block, a.off + 6, none⟩) hb).trans (hcc2 6 (by omega)), (hW.cell (p := ⟨a.block, a.off + 7, none⟩) hb).trans (hcc2 7 (by omega)), (hW.cell (p := ⟨a.block, a.off + 8, none⟩) hb).trans (hcc2 8 (by omega))⟩⟩
  clear hex2 hcc2 hb hsp
  have HX0 := BX.new w #[.int .i64 23, .slice (some a) 1 c, .string nm, .string pr, .int .i64 v.k, .bool v.b, .int .i64 v.n, .string v.s, .slice v.A v.p.length v.c] 29
  have hdown := (HR.out.alloc (.cells #[.int .i64 23, .slice (some a) 1 c, .string nm, .string pr, .int .i64 v.k, .bool v.b, .int .i64 v.n, .string v.s, .slice v.A v.p.length v.c] 29)).down (by omega)
  clear hr
  go_enter Tryd.func46, Tryd.ntmps46
  go_upto_region 2 with (go_at_call 45; refine hdown.mono ?_; rintro e w1 ⟨rfl, h1, k1⟩)
  have HX1 : Aside0 (BX w1 w.heap.size #[.int .i64 23, .slice (some a) 1 c, .string nm, .string pr, .int .i64 v.k, .bool v.b, .int .i64 v.n, .string v.s, .slice v.A v.p.length v.c] 29) := ⟨HX0.keepR (HR.out.alloc _) k1 (by decide) (by decide)⟩
  have HKK1 : Aside0 (KeptR b w w1) := ⟨(Lib.OthersKept.alloc (Lib.OthersKept.refl _ _ _) _).trans k1⟩
  have H1 := Aside0.mk h1
  have hsay := h1.say ⟨#[83, 85, 77, 40]⟩ (by decide)
  have hbx := HX1.out.cells
  clear hdown HX0 k1 h1
  go_upto_region 12 with (go_at_call 30; refine hsay.mono ?_; rintro e w2 ⟨rfl, h2, k2⟩)
  have HX2 : Aside0 (BX w2 w.heap.size #[.int .i64 23, .slice (some a) 1 c, .string nm, .string pr, .int .i64 v.k, .bool v.b, .int .i64 v.n, .string v.s, .slice v.A v.p.length v.c] 29) := ⟨HX1.out.keepR H1.out k2 (by decide) (by decide)⟩
  have hbx := HX2.out.cells
  obtain ⟨hb, hsp, c0, c1, c2, c3, c4, c5, c6, c7, c8⟩ := HCC.out w2 h2.base
  have h2b : RS w0 b (T ++ [83, 85, 77, 40]) ((d + 1 : Nat) : Int) (decide (50 < d + 1)) w2 := by simpa using h2
  have hcall := HE2.out _ _ _ h2b (fun e => by have := of_decide_eq_false e; omega)
  clear hsay h2 h2b
  go_upto_region 15 with (go_at_call 16; refine hcall.mono ?_; rintro e w3 ⟨rfl, h3, k3⟩)
  have hsay := h3.say ⟨#[41]⟩ (by decide)
  clear hcall h3 hb hsp c0 c1 c2 c3 c4 c5 c6 c7 c8 hbx
  go_upto_region 16 with (go_at_call 30; refine hsay.mono ?_; rintro e w4 ⟨rfl, h4, k4⟩)
  have HZ : Aside0 (RS w0 b _ ((d + 1 : Nat) : Int) _ w4) := ⟨h4⟩
  have HKZ : Aside0 (KeptR b w w4) := ⟨((HKK1.out.trans k2).trans k3).trans k4⟩
  clear hsay h4 k2 k3 k4
  have hc := HZ.out.cells.1
  have hf := HZ.out.free 1
  have hd1 : ((d + 1 : Nat) : Int) = (d : Int) + 1 := by omega
  rw [hd1] at hc
  have hdi : (d : Int) ≤ 60 := by omega
  have hdi0 : (0 : Int) ≤ (d : Int) := by omega
  clear hd1
  go_wp2
  first | go_end0 | refine bodyPost_ret (results_none rfl _ _ _) rfl ?_
  refine ⟨rfl, ?_, HKZ.out.trans (keptR_set b 1 w4 _)⟩
  have := HZ.out.deep (d : Int)
  simpa [List.append_assoc, Bool.or_assoc] using this
set_option maxRecDepth 100000 in
set_option maxHeartbeats 3200000 in
theorem rcall_24 (w0 : World) (b : Nat) (T : List UInt8) (A : Option Addr) (c : Nat) (nm pr : ByteArray) (v : VX) (d : Nat) (w : World) (k0 : XD) (hr : RS w0 b T d false w) (hd : d ≤ 50) (hx : ReadsXD w0 (.mk 24 A [k0] c nm pr v)) (hk : RefOk w0 b k0) :
    Calls Tryd.prog 46 #[.pointer (some ⟨b, 0, none⟩), .agg #[.int .i64 24, .slice A 1 c, .string nm, .string pr, .int .i64 v.k, .bool v.b, .int .i64 v.n, .string v.s, .slice v.A v.p.length v.c]] w fun e w' => e = .returned (.tuple #[]) ∧ (RS w0 b (T ++ ([77, 73, 78, 40] ++ (textX k0 ++ [41]))) d (decide (50 < d + 1) || !okX k0 (d + 1)) w' ∧ KeptR b w w') := by
  have HR := Aside0.mk hr
  obtain ⟨a, hAe, hb, hsp, hcc⟩ := hx.row 0 (by simp)
  subst hAe
  rw [show (0 * 9 : Nat) = 0 from rfl] at hb hsp hcc
  have e00 : a.add 0 = a := rfl
  rw [e00] at hb hsp hcc
  have hex := hk
  obtain ⟨ok2, hok2⟩ : ∃ ok2, ok2 = okX k0 (d + 1) := ⟨_, rfl⟩
  obtain ⟨tk, htk⟩ : ∃ tk, tk = textX k0 := ⟨_, rfl⟩
  have hex2 := fun (T : List UInt8) (fl : Bool) (w : World) => hex (d + 1) T fl w
  rw [← hok2, ← htk] at hex2 ⊢
  have hcc2 : ∀ i, i < 9 → w0.cell? ⟨a.block, a.off + i, none⟩ = k0.cells[i]? := hcc
  clear hok2 htk hex hk hx hcc
  obtain ⟨kop, kA, kks, kc, knm, kpr, ⟨kk, kb, kn, kx, kpA, kp, kpc⟩⟩ := k0
  dsimp only [XD.op, XD.A, XD.ks, XD.c, XD.nm, XD.pr, XD.v] at hex2
  have HE2 := Aside0.mk hex2
  have HCC : Aside0 (∀ W, Below w0.heap.size w0 W → a.block < W.heap.size ∧ a.spot = none ∧ W.cell? a = some (.int .i64 kop) ∧ W.cell? ⟨a.block, a.off + 1, none⟩ = some (.slice kA kks.length kc) ∧ W.cell? ⟨a.block, a.off + 2, none⟩ = some (.string knm) ∧ W.cell? ⟨a.block, a.off + 3, none⟩ = some (.string kpr) ∧ W.cell? ⟨a.block, a.off + 4, none⟩ = some (.int .i64 kk) ∧ W.cell? ⟨a.block, a.off + 5, none⟩ = some (.bool kb) ∧ W.cell? ⟨a.block, a.off + 6, none⟩ = some (.int .i64 kn) ∧ W.cell? ⟨a.block, a.off + 7, none⟩ = some (.string kx) ∧ W.cell? ⟨a.block, a.off + 8, none⟩ = some (.slice kpA kp.length kpc)) := ⟨fun W hW => ⟨Nat.lt_of_lt_of_le hb hW.size, hsp, by
      have e0 : (⟨a.block, a.off + 0, none⟩ : Addr) = a := by rw [← hsp]; rfl
      rw [← e0]
      exact (hW.cell (p := ⟨a.block, a.off + 0, none⟩) hb).trans (hcc2 0 (by omega)), (hW.cell (p := ⟨a.block, a.off + 1, none⟩) hb).trans (hcc2 1 (by omega)), (hW.cell (p := ⟨a.block, a.off + 2, none⟩) hb).trans (hcc2 2 (by omega)), (hW.cell (p := ⟨a.block, a.off + 3, none⟩) hb).trans (hcc2 3 (by omega)), (hW.cell (p := ⟨a.block, a.off + 4, none⟩) hb).trans (hcc2 4 (by omega)), (hW.cell (p := ⟨a.block, a.off + 5, none⟩) hb).trans (hcc2 5 (by omega)), (hW.cell (p := ⟨a.block, a.off + 6, none⟩) hb).trans (hcc2 6 (by omega)), (hW.cell (p := ⟨a.block, a.off + 7, none⟩) hb).trans (hcc2 7 (by omega)), (hW.cell (p := ⟨a.block, a.off + 8, none⟩) hb).trans (hcc2 8 (by omega))⟩⟩
  clear hex2 hcc2 hb hsp
  have HX0 := BX.new w #[.int .i64 24, .slice (some a) 1 c, .string nm, .string pr, .int .i64 v.k, .bool v.b, .int .i64 v.n, .string v.s, .slice v.A v.p.length v.c] 29
  have hdown := (HR.out.alloc (.cells #[.int .i64 24, .slice (some a) 1 c, .string nm, .string pr, .int .i64 v.k, .bool v.b, .int .i64 v.n, .string v.s, .slice v.A v.p.length v.c] 29)).down (by omega)
  clear hr
  go_enter Tryd.func46, Tryd.ntmps46
  go_upto_region 2 with (go_at_call 45; refine hdown.mono ?_; rintro e w1 ⟨rfl, h1, k1⟩)
  have HX1 : Aside0 (BX w1 w.heap.size #[.int .i64 24, .slice (some a) 1 c, .string nm, .string pr, .int .i64 v.k, .bool v.b, .int .i64 v.n, .string v.s, .slice v.A v.p.length v.c] 29) := ⟨HX0.keepR (HR.out.alloc _) k1 (by decide) (by decide)⟩
  have HKK1 : Aside0 (KeptR b w w1) := ⟨(Lib.OthersKept.alloc (Lib.OthersKept.refl _ _ _) _).trans k1⟩
  have H1 := Aside0.mk h1
  have hsay := h1.say ⟨#[77, 73, 78, 40]⟩ (by decide)
  have hbx := HX1.out.cells
  clear hdown HX0 k1 h1
  go_upto_region 12 with (go_at_call 30; refine hsay.mono ?_; rintro e w2 ⟨rfl, h2, k2⟩)
  have HX2 : Aside0 (BX w2 w.heap.size #[.int .i64 24, .slice (some a) 1 c, .string nm, .string pr, .int .i64 v.k, .bool v.b, .int .i64 v.n, .string v.s, .slice v.A v.p.length v.c] 29) := ⟨HX1.out.keepR H1.out k2 (by decide) (by decide)⟩
  have hbx := HX2.out.cells
  obtain ⟨hb, hsp, c0, c1, c2, c3, c4, c5, c6, c7, c8⟩ := HCC.out w2 h2.base
  have h2b : RS w0 b (T ++ [77, 73, 78, 40]) ((d + 1 : Nat) : Int) (decide (50 < d + 1)) w2 := by simpa using h2
  have hcall := HE2.out _ _ _ h2b (fun e => by have := of_decide_eq_false e; omega)
  clear hsay h2 h2b
  go_upto_region 15 with (go_at_call 16; refine hcall.mono ?_; rintro e w3 ⟨rfl, h3, k3⟩)
  have hsay := h3.say ⟨#[41]⟩ (by decide)
  clear hcall h3 hb hsp c0 c1 c2 c3 c4 c5 c6 c7 c8 hbx
  go_upto_region 16 with (go_at_call 30; refine hsay.mono ?_; rintro e w4 ⟨rfl, h4, k4⟩)
  have HZ : Aside0 (RS w0 b _ ((d + 1 : Nat) : Int) _ w4) := ⟨h4⟩
  have HKZ : Aside0 (KeptR b w w4) := ⟨((HKK1.out.trans k2).trans k3).trans k4⟩
  clear hsay h4 k2 k3 k4
  have hc := HZ.out.cells.1
  have hf := HZ.out.free 1
  have hd1 : ((d + 1 : Nat) : Int) = (d : Int) + 1 := by omega
  rw [hd1] at hc
  have hdi : (d : Int) ≤ 60 := by omega
  have hdi0 : (0 : Int) ≤ (d : Int) := by omega
  clear hd1
  go_wp2
  first | go_end0 | refine bodyPost_ret (results_none rfl _ _ _) rfl ?_
  refine ⟨rfl, ?_, HKZ.out.trans (keptR_set b 1 w4 _)⟩
  have := HZ.out.deep (d : Int)
  simpa [List.append_assoc, Bool.or_assoc] using this
set_option maxRecDepth 100000 in
set_option maxHeartbeats 3200000 in
theorem rcall_25 (w0 : World) (b : Nat) (T : List UInt8) (A : Option Addr) (c : Nat) (nm pr : ByteArray) (v : VX) (d : Nat) (w : World) (k0 : XD) (hr : RS w0 b T d false w) (hd : d ≤ 50) (hx : ReadsXD w0 (.mk 25 A [k0] c nm pr v)) (hk : RefOk w0 b k0) :
    Calls Tryd.prog 46 #[.pointer (some ⟨b, 0, none⟩), .agg #[.int .i64 25, .slice A 1 c, .string nm, .string pr, .int .i64 v.k, .bool v.b, .int .i64 v.n, .string v.s, .slice v.A v.p.length v.c]] w fun e w' => e = .returned (.tuple #[]) ∧ (RS w0 b (T ++ ([77, 65, 88, 40] ++ (textX k0 ++ [41]))) d (decide (50 < d + 1) || !okX k0 (d + 1)) w' ∧ KeptR b w w') := by
  have HR := Aside0.mk hr
  obtain ⟨a, hAe, hb, hsp, hcc⟩ := hx.row 0 (by simp)
  subst hAe
  rw [show (0 * 9 : Nat) = 0 from rfl] at hb hsp hcc
  have e00 : a.add 0 = a := rfl
  rw [e00] at hb hsp hcc
  have hex := hk
  obtain ⟨ok2, hok2⟩ : ∃ ok2, ok2 = okX k0 (d + 1) := ⟨_, rfl⟩
  obtain ⟨tk, htk⟩ : ∃ tk, tk = textX k0 := ⟨_, rfl⟩
  have hex2 := fun (T : List UInt8) (fl : Bool) (w : World) => hex (d + 1) T fl w
  rw [← hok2, ← htk] at hex2 ⊢
  have hcc2 : ∀ i, i < 9 → w0.cell? ⟨a.block, a.off + i, none⟩ = k0.cells[i]? := hcc
  clear hok2 htk hex hk hx hcc
  obtain ⟨kop, kA, kks, kc, knm, kpr, ⟨kk, kb, kn, kx, kpA, kp, kpc⟩⟩ := k0
  dsimp only [XD.op, XD.A, XD.ks, XD.c, XD.nm, XD.pr, XD.v] at hex2
  have HE2 := Aside0.mk hex2
  have HCC : Aside0 (∀ W, Below w0.heap.size w0 W → a.block < W.heap.size ∧ a.spot = none ∧ W.cell? a = some (.int .i64 kop) ∧ W.cell? ⟨a.block, a.off + 1, none⟩ = some (.slice kA kks.length kc) ∧ W.cell? ⟨a.block, a.off + 2, none⟩ = some (.string knm) ∧ W.cell? ⟨a.block, a.off + 3, none⟩ = some (.string kpr) ∧ W.cell? ⟨a.block, a.off + 4, none⟩ = some (.int .i64 kk) ∧ W.cell? ⟨a.block, a.off + 5, none⟩ = some (.bool kb) ∧ W.cell? ⟨a.block, a.off + 6, none⟩ = some (.int .i64 kn) ∧ W.cell? ⟨a.block, a.off + 7, none⟩ = some (.string kx) ∧ W.cell? ⟨a.block, a.off + 8, none⟩ = some (.slice kpA kp.length kpc)) := ⟨fun W hW => ⟨Nat.lt_of_lt_of_le hb hW.size, hsp, by
      have e0 : (⟨a.block, a.off + 0, none⟩ : Addr) = a := by rw [← hsp]; rfl
      rw [← e0]
      exact (hW.cell (p := ⟨a.block, a.off + 0, none⟩) hb).trans (hcc2 0 (by omega)), (hW.cell (p := ⟨a.block, a.off + 1, none⟩) hb).trans (hcc2 1 (by omega)), (hW.cell (p := ⟨a.block, a.off + 2, none⟩) hb).trans (hcc2 2 (by omega)), (hW.cell (p := ⟨a.block, a.off + 3, none⟩) hb).trans (hcc2 3 (by omega)), (hW.cell (p := ⟨a.block, a.off + 4, none⟩) hb).trans (hcc2 4 (by omega)), (hW.cell (p := ⟨a.block, a.off + 5, none⟩) hb).trans (hcc2 5 (by omega)), (hW.cell (p := ⟨a.block, a.off + 6, none⟩) hb).trans (hcc2 6 (by omega)), (hW.cell (p := ⟨a.block, a.off + 7, none⟩) hb).trans (hcc2 7 (by omega)), (hW.cell (p := ⟨a.block, a.off + 8, none⟩) hb).trans (hcc2 8 (by omega))⟩⟩
  clear hex2 hcc2 hb hsp
  have HX0 := BX.new w #[.int .i64 25, .slice (some a) 1 c, .string nm, .string pr, .int .i64 v.k, .bool v.b, .int .i64 v.n, .string v.s, .slice v.A v.p.length v.c] 29
  have hdown := (HR.out.alloc (.cells #[.int .i64 25, .slice (some a) 1 c, .string nm, .string pr, .int .i64 v.k, .bool v.b, .int .i64 v.n, .string v.s, .slice v.A v.p.length v.c] 29)).down (by omega)
  clear hr
  go_enter Tryd.func46, Tryd.ntmps46
  go_upto_region 2 with (go_at_call 45; refine hdown.mono ?_; rintro e w1 ⟨rfl, h1, k1⟩)
  have HX1 : Aside0 (BX w1 w.heap.size #[.int .i64 25, .slice (some a) 1 c, .string nm, .string pr, .int .i64 v.k, .bool v.b, .int .i64 v.n, .string v.s, .slice v.A v.p.length v.c] 29) := ⟨HX0.keepR (HR.out.alloc _) k1 (by decide) (by decide)⟩
  have HKK1 : Aside0 (KeptR b w w1) := ⟨(Lib.OthersKept.alloc (Lib.OthersKept.refl _ _ _) _).trans k1⟩
  have H1 := Aside0.mk h1
  have hsay := h1.say ⟨#[77, 65, 88, 40]⟩ (by decide)
  have hbx := HX1.out.cells
  clear hdown HX0 k1 h1
  go_upto_region 12 with (go_at_call 30; refine hsay.mono ?_; rintro e w2 ⟨rfl, h2, k2⟩)
  have HX2 : Aside0 (BX w2 w.heap.size #[.int .i64 25, .slice (some a) 1 c, .string nm, .string pr, .int .i64 v.k, .bool v.b, .int .i64 v.n, .string v.s, .slice v.A v.p.length v.c] 29) := ⟨HX1.out.keepR H1.out k2 (by decide) (by decide)⟩
  have hbx := HX2.out.cells
  obtain ⟨hb, hsp, c0, c1, c2, c3, c4, c5, c6, c7, c8⟩ := HCC.out w2 h2.base
  have h2b : RS w0 b (T ++ [77, 65, 88, 40]) ((d + 1 : Nat) : Int) (decide (50 < d + 1)) w2 := by simpa using h2
  have hcall := HE2.out _ _ _ h2b (fun e => by have := of_decide_eq_false e; omega)
  clear hsay h2 h2b
  go_upto_region 15 with (go_at_call 16; refine hcall.mono ?_; rintro e w3 ⟨rfl, h3, k3⟩)
  have hsay := h3.say ⟨#[41]⟩ (by decide)
  clear hcall h3 hb hsp c0 c1 c2 c3 c4 c5 c6 c7 c8 hbx
  go_upto_region 16 with (go_at_call 30; refine hsay.mono ?_; rintro e w4 ⟨rfl, h4, k4⟩)
  have HZ : Aside0 (RS w0 b _ ((d + 1 : Nat) : Int) _ w4) := ⟨h4⟩
  have HKZ : Aside0 (KeptR b w w4) := ⟨((HKK1.out.trans k2).trans k3).trans k4⟩
  clear hsay h4 k2 k3 k4
  have hc := HZ.out.cells.1
  have hf := HZ.out.free 1
  have hd1 : ((d + 1 : Nat) : Int) = (d : Int) + 1 := by omega
  rw [hd1] at hc
  have hdi : (d : Int) ≤ 60 := by omega
  have hdi0 : (0 : Int) ≤ (d : Int) := by omega
  clear hd1
  go_wp2
  first | go_end0 | refine bodyPost_ret (results_none rfl _ _ _) rfl ?_
  refine ⟨rfl, ?_, HKZ.out.trans (keptR_set b 1 w4 _)⟩
  have := HZ.out.deep (d : Int)
  simpa [List.append_assoc, Bool.or_assoc] using this
set_option maxRecDepth 100000 in
set_option maxHeartbeats 3200000 in
theorem rcall_26 (w0 : World) (b : Nat) (T : List UInt8) (A : Option Addr) (c : Nat) (nm pr : ByteArray) (v : VX) (d : Nat) (w : World) (hr : RS w0 b T d false w) (hd : d ≤ 50) :
    Calls Tryd.prog 46 #[.pointer (some ⟨b, 0, none⟩), .agg #[.int .i64 26, .slice A 0 c, .string nm, .string pr, .int .i64 v.k, .bool v.b, .int .i64 v.n, .string v.s, .slice v.A v.p.length v.c]] w fun e w' => e = .returned (.tuple #[]) ∧ (RS w0 b (T ++ ([67, 79, 85, 78, 84, 40] ++ ([42] ++ [41]))) d (decide (50 < d + 1)) w' ∧ KeptR b w w') := by
  have HR := Aside0.mk hr
  have HX0 := BX.new w #[.int .i64 26, .slice A 0 c, .string nm, .string pr, .int .i64 v.k, .bool v.b, .int .i64 v.n, .string v.s, .slice v.A v.p.length v.c] 29
  have hdown := (HR.out.alloc (.cells #[.int .i64 26, .slice A 0 c, .string nm, .string pr, .int .i64 v.k, .bool v.b, .int .i64 v.n, .string v.s, .slice v.A v.p.length v.c] 29)).down (by omega)
  clear hr
  go_enter Tryd.func46, Tryd.ntmps46
  go_upto_region 2 with (go_at_call 45; refine hdown.mono ?_; rintro e w1 ⟨rfl, h1, k1⟩)
  have HX1 : Aside0 (BX w1 w.heap.size #[.int .i64 26, .slice A 0 c, .string nm, .string pr, .int .i64 v.k, .bool v.b, .int .i64 v.n, .string v.s, .slice v.A v.p.length v.c] 29) := ⟨HX0.keepR (HR.out.alloc _) k1 (by decide) (by decide)⟩
  have HKK1 : Aside0 (KeptR b w w1) := ⟨(Lib.OthersKept.alloc (Lib.OthersKept.refl _ _ _) _).trans k1⟩
  have H1 := Aside0.mk h1
  have hsay := h1.say ⟨#[67, 79, 85, 78, 84, 40]⟩ (by decide)
  have hbx := HX1.out.cells
  clear hdown HX0 k1 h1
  go_upto_region 12 with (go_at_call 30; refine hsay.mono ?_; rintro e w2 ⟨rfl, h2, k2⟩)
  have HX2 : Aside0 (BX w2 w.heap.size #[.int .i64 26, .slice A 0 c, .string nm, .string pr, .int .i64 v.k, .bool v.b, .int .i64 v.n, .string v.s, .slice v.A v.p.length v.c] 29) := ⟨HX1.out.keepR H1.out k2 (by decide) (by decide)⟩
  have hbx := HX2.out.cells
  have hsay := h2.say ⟨#[42]⟩ (by decide)
  clear h2
  go_upto_region 15 with (go_at_call 30; refine hsay.mono ?_; rintro e w3 ⟨rfl, h3, k3⟩)
  have hsay := h3.say ⟨#[41]⟩ (by decide)
  clear h3 hbx
  go_upto_region 16 with (go_at_call 30; refine hsay.mono ?_; rintro e w4 ⟨rfl, h4, k4⟩)
  have HZ : Aside0 (RS w0 b _ ((d + 1 : Nat) : Int) _ w4) := ⟨h4⟩
  have HKZ : Aside0 (KeptR b w w4) := ⟨((HKK1.out.trans k2).trans k3).trans k4⟩
  clear hsay h4 k2 k3 k4
  have hc := HZ.out.cells.1
  have hf := HZ.out.free 1
  have hd1 : ((d + 1 : Nat) : Int) = (d : Int) + 1 := by omega
  rw [hd1] at hc
  have hdi : (d : Int) ≤ 60 := by omega
  have hdi0 : (0 : Int) ≤ (d : Int) := by omega
  clear hd1
  go_wp2
  first | go_end0 | refine bodyPost_ret (results_none rfl _ _ _) rfl ?_
  refine ⟨rfl, ?_, HKZ.out.trans (keptR_set b 1 w4 _)⟩
  have := HZ.out.deep (d : Int)
  simpa [List.append_assoc, Bool.or_assoc] using this
end Go.Proofs.YtkchpgjjkckfbaaDoor
