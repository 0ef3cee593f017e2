/- The printer's expr, the main way. -/
import Derived.Test.YtkchpgjjkckfbaaDoorPrE4
import Derived.Deep.RegionHeld3
set_option linter.unusedVariables false
set_option linter.unusedSimpArgs false
namespace Go.Proofs.YtkchpgjjkckfbaaDoor
open Go.RowKit

/-- What stands while an expression is told: the writer; the boxes; the row of what places ask for. -/
def Stt (w0 w : World) (b bx bs : Nat) (xb sb : Array Value) (SA : Option Addr) (al : List Int) (T : List UInt8) (fl : Bool) (W : World) : Prop :=
  WS w0 b T fl W ∧ KeptB b w W ∧ BX W bx xb 29 ∧ BX W bs sb 88 ∧ AskRow W SA al
section
variable {w0 w : World} {b bx bs : Nat} {xb sb : Array Value} {SA : Option Addr} {al : List Int} {T T' : List UInt8} {fl fl' : Bool} {W W' : World}
theorem Stt.step (h : Stt w0 w b bx bs xb sb SA al T fl W) (hw : WS w0 b T' fl' W') (hk : KeptB b W W') : Stt w0 w b bx bs xb sb SA al T' fl' W' := by
  obtain ⟨h1, h2, h3, h4, h5⟩ := h
  refine ⟨hw, h2.trans hk, h3.keep h1 hk (by decide) (by decide), h4.keep h1 hk (by decide) (by decide), ?_⟩
  rcases h5 with h5 | ⟨r, e, h5⟩
  · exact .inl h5
  · exact .inr ⟨r, e, BX.keep (x := r) h5 h1 hk (by decide) (by decide)⟩
theorem Stt.alloc (h : Stt w0 w b bx bs xb sb SA al T fl W) (ob : Obj) : Stt w0 w b bx bs xb sb SA al T fl (W.alloc ob) := h.step (h.1.alloc ob) (kept_alloc (Lib.OthersKept.refl _ _ _) ob)
theorem Stt.below (h : Stt w0 w b bx bs xb sb SA al T fl W) (hb : Below W.heap.size W W') : Stt w0 w b bx bs xb sb SA al T fl W' := h.step (h.1.below hb) (kept_below hb)
theorem Stt.cx (h : Stt w0 w b bx bs xb sb SA al T fl W) (j : Nat) : W.cell? ⟨bx, j, none⟩ = xb[j]? := h.2.2.1.cells j
theorem Stt.cs (h : Stt w0 w b bx bs xb sb SA al T fl W) (j : Nat) : W.cell? ⟨bs, j, none⟩ = sb[j]? := h.2.2.2.1.cells j
theorem Stt.ask (h : Stt w0 w b bx bs xb sb SA al T fl W) (j : Nat) (hj : j < al.length) : ∃ r, SA = some ⟨r, 0, none⟩ ∧ W.cell? ⟨r, j, none⟩ = some (.int .i64 (al.getD j 0)) := by
  rcases h.2.2.2.2 with h5 | ⟨r, e, h5⟩
  · rw [h5] at hj
    cases hj
  · refine ⟨r, e, ?_⟩
    rw [Lib.cell_of_heap h5]
    simp [List.getD, hj]
end
theorem ReadsXD.row {w0 : World} {op : Int} {A : Option Addr} {ks : List XD} {c : Nat} {nm pr : ByteArray} {v : VX} (h : ReadsXD w0 (.mk op A ks c nm pr v)) (j : Nat) (hj : j < ks.length) : ∃ a, A = some a ∧ (a.add (j * 9)).block < w0.heap.size ∧ (a.add (j * 9)).spot = none ∧ ∀ i, i < 9 → w0.cell? ⟨(a.add (j * 9)).block, (a.add (j * 9)).off + i, none⟩ = ((ks.getD j XD.zero).cells)[i]? := by
  cases h with
  | mk _ _ _ _ _ _ _ _ hrow _ => exact hrow j hj
theorem ReadsXD.kid {w0 : World} {op : Int} {A : Option Addr} {ks : List XD} {c : Nat} {nm pr : ByteArray} {v : VX} (h : ReadsXD w0 (.mk op A ks c nm pr v)) (k : XD) (hk : k ∈ ks) : ReadsXD w0 k := by
  cases h with
  | mk _ _ _ _ _ _ _ _ _ hkids => exact hkids k hk
theorem ReadsXD.own {w0 : World} {op : Int} {A : Option Addr} {ks : List XD} {c : Nat} {nm pr : ByteArray} {v : VX} (h : ReadsXD w0 (.mk op A ks c nm pr v)) : nm.size ≤ 140737488351232 ∧ pr.size ≤ 140737488351232 ∧ v.s.size ≤ 140737488351232 ∧ (-9223372036854775808 ≤ v.n ∧ v.n ≤ 9223372036854775807) ∧ ReadsI w0 v.A v.p := by
  cases h with
  | mk _ _ hnm hpr hs _ hn hp _ _ => exact ⟨hnm, hpr, hs, hn, hp⟩
theorem fld_shape (v0 v1 v2 v3 v4 : Value) (W : World) : (Instr.field 88 (.agg #[v0, v1, v2, v3, v4]) 0).run Tryd.prog W = .ok v0 W := by kernel_rfl
theorem drop_kid {α : Type} (l : List α) (z : α) (j : Nat) (h : j < l.length) : l.drop j = l.getD j z :: l.drop (j + 1) := by
  rw [List.drop_eq_getElem_cons h]
  simp [List.getD, h]
theorem head_drop (l : List Int) (j : Nat) : (l.drop j).headD 0 = l.getD j 0 := by
  rw [List.getD_eq_getElem?_getD, List.headD_eq_head?_getD, List.head?_drop]
theorem tail_drop (l : List Int) (j : Nat) : (l.drop j).tail = l.drop (j + 1) := by rw [List.tail_drop]

set_option maxRecDepth 100000 in
set_option maxHeartbeats 6400000 in
theorem x_main (w0 : World) (b : Nat) (T FT : List UInt8) (FL : Bool) (op : Int) (A : Option Addr) (ks : List XD) (c : Nat) (nm pr : ByteArray) (v : VX) (d : Nat) (w : World) (s : Shp) (hw : WS w0 b T false w) (hsh : ∀ W, Calls Tryd.prog 36 #[.int .i64 op] W (shapeQ s W))
    (hs : shpD op = some s) (hkl : ks.length = s.asks.length) (hd : d ≤ 50) (h0 : (s.lvl == 0) = false) (h0b : ¬ s.lvl = 0)
    (hpl : ∀ W, Below w.heap.size w W → Calls Tryd.prog 37 #[.agg #[.int .i64 op, .slice A ks.length c, .string nm, .string pr, .int .i64 v.k, .bool v.b, .int .i64 v.n, .string v.s, .slice v.A v.p.length v.c], .int .i64 s.asks.length] W fun e w' => e = .returned (.bool true) ∧ Below W.heap.size W w')
    (hpp : plainB op nm pr v = true) (hx : ReadsXD w0 (.mk op A ks c nm pr v)) (ht : Tabs w0) (hkid : ∀ k, k ∈ ks → ExprOk w0 b k)
    (hFL : FL = !(decide (deepD op d ≤ 50) && okK ks s.asks (deepD op d))) (hFT : FT = T ++ (s.ahead ++ (coreX op nm pr v ++ (textK ks s.asks s.sign true ++ s.behind)))) :
    Calls Tryd.prog 14 #[.pointer (some ⟨b, 0, none⟩), .agg #[.int .i64 op, .slice A ks.length c, .string nm, .string pr, .int .i64 v.k, .bool v.b, .int .i64 v.n, .string v.s, .slice v.A v.p.length v.c], .int .i64 d] w fun e w' => e = .returned (.tuple #[]) ∧ (WS w0 b FT FL w' ∧ KeptB b w w') := by
  have HW := Aside0.mk hw
  have HX := Aside0.mk hx
  have HS := Aside0.mk hs
  have HKL := Aside0.mk hkl
  have HD := Aside0.mk hd
  have HPP := Aside0.mk hpp
  have HT := Aside0.mk ht
  have HKID := Aside0.mk hkid
  have HFL := Aside0.mk hFL
  have HFT := Aside0.mk hFT
  have HSF := Aside0.mk (shp_facts hs)
  clear hw hx hs hkl hd hpp ht hkid hFL hFT
  go_enter Tryd.func14, Tryd.ntmps14
  go_wp2_with (fail)
  refine wp_scope_jumps 0 (fun a' w' => a' = { tmps := #[.pointer (some ⟨b, 0, none⟩), (a'.tmps.getD 1 undef), (a'.tmps.getD 2 undef), (a'.tmps.getD 3 undef), (a'.tmps.getD 4 undef), (a'.tmps.getD 5 undef), (a'.tmps.getD 6 undef), (a'.tmps.getD 7 undef), (a'.tmps.getD 8 undef), (a'.tmps.getD 9 undef), (a'.tmps.getD 10 undef), (a'.tmps.getD 11 undef), (a'.tmps.getD 12 undef), (a'.tmps.getD 13 undef), (a'.tmps.getD 14 undef), (a'.tmps.getD 15 undef), (a'.tmps.getD 16 undef), (a'.tmps.getD 17 undef), (a'.tmps.getD 18 undef), (a'.tmps.getD 19 undef), (a'.tmps.getD 20 undef), (a'.tmps.getD 21 undef), (a'.tmps.getD 22 undef), (a'.tmps.getD 23 undef), (a'.tmps.getD 24 undef), (a'.tmps.getD 25 undef), (a'.tmps.getD 26 undef), (a'.tmps.getD 27 undef), (a'.tmps.getD 28 undef), (a'.tmps.getD 29 undef), (a'.tmps.getD 30 undef), (a'.tmps.getD 31 undef), (a'.tmps.getD 32 undef), (a'.tmps.getD 33 undef), (a'.tmps.getD 34 undef), (a'.tmps.getD 35 undef), (a'.tmps.getD 36 undef), (a'.tmps.getD 37 undef), (a'.tmps.getD 38 undef), (a'.tmps.getD 39 undef), (a'.tmps.getD 40 undef), (a'.tmps.getD 41 undef), (a'.tmps.getD 42 undef), (a'.tmps.getD 43 undef), (a'.tmps.getD 44 undef), (a'.tmps.getD 45 undef), (a'.tmps.getD 46 undef), (a'.tmps.getD 47 undef), (a'.tmps.getD 48 undef), (a'.tmps.getD 49 undef), (a'.tmps.getD 50 undef), (a'.tmps.getD 51 undef), (a'.tmps.getD 52 undef), (a'.tmps.getD 53 undef), (a'.tmps.getD 54 undef), (a'.tmps.getD 55 undef), (a'.tmps.getD 56 undef), (a'.tmps.getD 57 undef), (a'.tmps.getD 58 undef), (a'.tmps.getD 59 undef), (a'.tmps.getD 60 undef), (a'.tmps.getD 61 undef), (a'.tmps.getD 62 undef), (a'.tmps.getD 63 undef), (a'.tmps.getD 64 undef), (a'.tmps.getD 65 undef), (a'.tmps.getD 66 undef), (a'.tmps.getD 67 undef), (a'.tmps.getD 68 undef), (a'.tmps.getD 69 undef), (a'.tmps.getD 70 undef), (a'.tmps.getD 71 undef), (a'.tmps.getD 72 undef), (a'.tmps.getD 73 undef), (a'.tmps.getD 74 undef), (a'.tmps.getD 75 undef), (a'.tmps.getD 76 undef), (a'.tmps.getD 77 undef), (a'.tmps.getD 78 undef), (a'.tmps.getD 79 undef), (a'.tmps.getD 80 undef), (a'.tmps.getD 81 undef), (a'.tmps.getD 82 undef), (a'.tmps.getD 83 undef), (a'.tmps.getD 84 undef), (a'.tmps.getD 85 undef), (a'.tmps.getD 86 undef), (a'.tmps.getD 87 undef), (a'.tmps.getD 88 undef), (a'.tmps.getD 89 undef), (a'.tmps.getD 90 undef), (a'.tmps.getD 91 undef), (a'.tmps.getD 92 undef), (a'.tmps.getD 93 undef), (a'.tmps.getD 94 undef), (a'.tmps.getD 95 undef), (a'.tmps.getD 96 undef), (a'.tmps.getD 97 undef), (a'.tmps.getD 98 undef), (a'.tmps.getD 99 undef), (a'.tmps.getD 100 undef), (a'.tmps.getD 101 undef), (a'.tmps.getD 102 undef), (a'.tmps.getD 103 undef), (a'.tmps.getD 104 undef), (a'.tmps.getD 105 undef), (a'.tmps.getD 106 undef), (a'.tmps.getD 107 undef), (a'.tmps.getD 108 undef), (a'.tmps.getD 109 undef), (a'.tmps.getD 110 undef), (a'.tmps.getD 111 undef), (a'.tmps.getD 112 undef), (a'.tmps.getD 113 undef), (a'.tmps.getD 114 undef), (a'.tmps.getD 115 undef), (a'.tmps.getD 116 undef), (a'.tmps.getD 117 undef), (a'.tmps.getD 118 undef), (a'.tmps.getD 119 undef), (a'.tmps.getD 120 undef), (a'.tmps.getD 121 undef), (a'.tmps.getD 122 undef), (a'.tmps.getD 123 undef), (a'.tmps.getD 124 undef), (a'.tmps.getD 125 undef), (a'.tmps.getD 126 undef), (a'.tmps.getD 127 undef), (a'.tmps.getD 128 undef), (a'.tmps.getD 129 undef), (a'.tmps.getD 130 undef), (a'.tmps.getD 131 undef), (a'.tmps.getD 132 undef)], defers := [] } ∧ (∃ T' fl', WS w0 b T' fl' w') ∧ KeptB b w w' ∧ FL = true) (fun _ _ => 0) rfl ?first ?pass
  case pass =>
    rintro a' w' ⟨ha, ⟨T', fl', hw'⟩, hk', hFL2⟩
    obtain ⟨U, hU⟩ : ∃ U : Nat → Value, U = fun i => a'.tmps.getD i undef := ⟨_, rfl⟩
    have ha2 : a' = { tmps := #[.pointer (some ⟨b, 0, none⟩), U 1, U 2, U 3, U 4, U 5, U 6, U 7, U 8, U 9, U 10, U 11, U 12, U 13, U 14, U 15, U 16, U 17, U 18, U 19, U 20, U 21, U 22, U 23, U 24, U 25, U 26, U 27, U 28, U 29, U 30, U 31, U 32, U 33, U 34, U 35, U 36, U 37, U 38, U 39, U 40, U 41, U 42, U 43, U 44, U 45, U 46, U 47, U 48, U 49, U 50, U 51, U 52, U 53, U 54, U 55, U 56, U 57, U 58, U 59, U 60, U 61, U 62, U 63, U 64, U 65, U 66, U 67, U 68, U 69, U 70, U 71, U 72, U 73, U 74, U 75, U 76, U 77, U 78, U 79, U 80, U 81, U 82, U 83, U 84, U 85, U 86, U 87, U 88, U 89, U 90, U 91, U 92, U 93, U 94, U 95, U 96, U 97, U 98, U 99, U 100, U 101, U 102, U 103, U 104, U 105, U 106, U 107, U 108, U 109, U 110, U 111, U 112, U 113, U 114, U 115, U 116, U 117, U 118, U 119, U 120, U 121, U 122, U 123, U 124, U 125, U 126, U 127, U 128, U 129, U 130, U 131, U 132], defers := [] } := by rw [hU]; exact ha
    have HW' := Aside0.mk hw'
    have hc := hw'.cell
    have hf := hw'.free 2
    clear ha hU hw'
    subst ha2
    go_wp2
    simp only [Exit.jump]
    go_end0
    exact ⟨rfl, by rw [hFL2]; exact HW'.out.bad _, hk'.trans ((Lib.OthersKept.refl _ _ _).setCell ⟨b, 2, none⟩ rfl _)⟩
  case first =>
  go_upto_region 2 with (go_at_call 36; refine (hsh _).mono ?_; rintro e w1 ⟨SA, rfl, hA, hb1⟩; unfold shapeV; have hz1 : w.heap.size < w1.heap.size := (by have := hb1.size; (try simp at this); omega); have hbx0 : ∀ i, w1.cell? ⟨w.heap.size, i, none⟩ = (#[.int .i64 op, .slice A ks.length c, .string nm, .string pr, .int .i64 v.k, .bool v.b, .int .i64 v.n, .string v.s, .slice v.A v.p.length v.c] : Array Value)[i]? := (fun i => (hb1.cell (p := ⟨w.heap.size, i, none⟩) (by simp)).trans (by simp [go_sem])); have HBA := Aside0.mk hb1; have HB1 := Aside0.mk (below_then (below_more (Below.refl w.heap.size w) _) hb1); clear hb1)
  have hA1 := Aside0.mk hA
  have HWS1 := HW.out.below HB1.out
  have hc2 := (HWS1.alloc (.cells #[.int .i64 s.lvl, .slice SA s.asks.length s.asks.length, .string ⟨s.ahead.toArray⟩, .string ⟨s.sign.toArray⟩, .string ⟨s.behind.toArray⟩] 88)).cell
  have HWS2 := Aside0.mk HWS1
  clear HWS1
  go_upto_region 3 with (go_at_call 37; refine (hpl _ (below_more HB1.out _)).mono ?_; rintro e w3 ⟨rfl, hb3⟩)
  rename_i K6 hK6 K3 hK3
  have HB3 : Aside0 (Below w1.heap.size w1 w3) := ⟨below_box hb3⟩
  have HST3 : Aside0 (Stt w0 w b w.heap.size w1.heap.size #[.int .i64 op, .slice A ks.length c, .string nm, .string pr, .int .i64 v.k, .bool v.b, .int .i64 v.n, .string v.s, .slice v.A v.p.length v.c] #[.int .i64 s.lvl, .slice SA s.asks.length s.asks.length, .string ⟨s.ahead.toArray⟩, .string ⟨s.sign.toArray⟩, .string ⟨s.behind.toArray⟩] SA s.asks T false w3) := ⟨by
    refine Stt.below (W := w1.alloc (.cells #[.int .i64 s.lvl, .slice SA s.asks.length s.asks.length, .string ⟨s.ahead.toArray⟩, .string ⟨s.sign.toArray⟩, .string ⟨s.behind.toArray⟩] 88)) ⟨HWS2.out.alloc _, kept_below (below_more HB1.out _), ?_, BX.new w1 _ _, ?_⟩ hb3
    · exact BX.alloc (show w1.heap[w.heap.size]? = _ from by
        have hq : BX (w.alloc (.cells #[.int .i64 op, .slice A ks.length c, .string nm, .string pr, .int .i64 v.k, .bool v.b, .int .i64 v.n, .string v.s, .slice v.A v.p.length v.c] 29)) w.heap.size #[.int .i64 op, .slice A ks.length c, .string nm, .string pr, .int .i64 v.k, .bool v.b, .int .i64 v.n, .string v.s, .slice v.A v.p.length v.c] 29 := BX.new w _ _
        exact (HBA.out.block _ (by simp)).trans hq) _
    · rcases hA1.out with h5 | ⟨r, e, h5⟩
      · exact .inl h5
      · exact .inr ⟨r, e, BX.alloc (x := r) h5 _⟩⟩
  obtain ⟨bx, hbxx⟩ : ∃ bx, bx = w.heap.size := ⟨_, rfl⟩
  obtain ⟨bs, hbss⟩ : ∃ bs, bs = w1.heap.size := ⟨_, rfl⟩
  rw [← hbxx, ← hbss] at HST3
  rw [← hbxx, ← hbss]
  have HNM := Aside0.mk (And.intro hbxx hbss)
  clear hbxx hbss hbx0 hc2 hb3 hA hz1 hsh hpl
  obtain ⟨xb, hxb⟩ : ∃ xb : Array Value, xb = #[.int .i64 op, .slice A ks.length c, .string nm, .string pr, .int .i64 v.k, .bool v.b, .int .i64 v.n, .string v.s, .slice v.A v.p.length v.c] := ⟨_, rfl⟩
  obtain ⟨sb, hsb⟩ : ∃ sb : Array Value, sb = #[.int .i64 s.lvl, .slice SA s.asks.length s.asks.length, .string ⟨s.ahead.toArray⟩, .string ⟨s.sign.toArray⟩, .string ⟨s.behind.toArray⟩] := ⟨_, rfl⟩
  rw [← hxb, ← hsb] at HST3
  have HXB := Aside0.mk hxb
  have HSB := Aside0.mk hsb
  clear hxb hsb
  have HREST : ∀ (dd : Nat) (a' : Act), dd = deepD op d → dd ≤ 50 → a' = { tmps := #[.pointer (some ⟨b, 0, none⟩), (a'.tmps.getD 1 undef), .int .i64 (dd : Int), (a'.tmps.getD 3 undef), .pointer (some ⟨bx, 0, none⟩), (a'.tmps.getD 5 undef), .pointer (some ⟨bs, 0, none⟩), (a'.tmps.getD 7 undef), (a'.tmps.getD 8 undef), (a'.tmps.getD 9 undef), (a'.tmps.getD 10 undef), (a'.tmps.getD 11 undef), (a'.tmps.getD 12 undef), (a'.tmps.getD 13 undef), (a'.tmps.getD 14 undef), (a'.tmps.getD 15 undef), (a'.tmps.getD 16 undef), (a'.tmps.getD 17 undef), (a'.tmps.getD 18 undef), (a'.tmps.getD 19 undef), (a'.tmps.getD 20 undef), (a'.tmps.getD 21 undef), (a'.tmps.getD 22 undef), (a'.tmps.getD 23 undef), (a'.tmps.getD 24 undef), (a'.tmps.getD 25 undef), (a'.tmps.getD 26 undef), (a'.tmps.getD 27 undef), (a'.tmps.getD 28 undef), (a'.tmps.getD 29 undef), (a'.tmps.getD 30 undef), (a'.tmps.getD 31 undef), (a'.tmps.getD 32 undef), (a'.tmps.getD 33 undef), (a'.tmps.getD 34 undef), (a'.tmps.getD 35 undef), (a'.tmps.getD 36 undef), (a'.tmps.getD 37 undef), (a'.tmps.getD 38 undef), (a'.tmps.getD 39 undef), (a'.tmps.getD 40 undef), (a'.tmps.getD 41 undef), (a'.tmps.getD 42 undef), (a'.tmps.getD 43 undef), (a'.tmps.getD 44 undef), (a'.tmps.getD 45 undef), (a'.tmps.getD 46 undef), (a'.tmps.getD 47 undef), (a'.tmps.getD 48 undef), (a'.tmps.getD 49 undef), (a'.tmps.getD 50 undef), (a'.tmps.getD 51 undef), (a'.tmps.getD 52 undef), (a'.tmps.getD 53 undef), (a'.tmps.getD 54 undef), (a'.tmps.getD 55 undef), (a'.tmps.getD 56 undef), (a'.tmps.getD 57 undef), (a'.tmps.getD 58 undef), (a'.tmps.getD 59 undef), (a'.tmps.getD 60 undef), (a'.tmps.getD 61 undef), (a'.tmps.getD 62 undef), (a'.tmps.getD 63 undef), (a'.tmps.getD 64 undef), (a'.tmps.getD 65 undef), (a'.tmps.getD 66 undef), (a'.tmps.getD 67 undef), (a'.tmps.getD 68 undef), (a'.tmps.getD 69 undef), (a'.tmps.getD 70 undef), (a'.tmps.getD 71 undef), (a'.tmps.getD 72 undef), (a'.tmps.getD 73 undef), (a'.tmps.getD 74 undef), (a'.tmps.getD 75 undef), (a'.tmps.getD 76 undef), (a'.tmps.getD 77 undef), (a'.tmps.getD 78 undef), (a'.tmps.getD 79 undef), (a'.tmps.getD 80 undef), (a'.tmps.getD 81 undef), (a'.tmps.getD 82 undef), (a'.tmps.getD 83 undef), (a'.tmps.getD 84 undef), (a'.tmps.getD 85 undef), (a'.tmps.getD 86 undef), (a'.tmps.getD 87 undef), (a'.tmps.getD 88 undef), (a'.tmps.getD 89 undef), (a'.tmps.getD 90 undef), (a'.tmps.getD 91 undef), (a'.tmps.getD 92 undef), (a'.tmps.getD 93 undef), (a'.tmps.getD 94 undef), (a'.tmps.getD 95 undef), (a'.tmps.getD 96 undef), (a'.tmps.getD 97 undef), (a'.tmps.getD 98 undef), (a'.tmps.getD 99 undef), (a'.tmps.getD 100 undef), (a'.tmps.getD 101 undef), (a'.tmps.getD 102 undef), (a'.tmps.getD 103 undef), (a'.tmps.getD 104 undef), (a'.tmps.getD 105 undef), (a'.tmps.getD 106 undef), (a'.tmps.getD 107 undef), (a'.tmps.getD 108 undef), (a'.tmps.getD 109 undef), (a'.tmps.getD 110 undef), (a'.tmps.getD 111 undef), (a'.tmps.getD 112 undef), (a'.tmps.getD 113 undef), (a'.tmps.getD 114 undef), (a'.tmps.getD 115 undef), (a'.tmps.getD 116 undef), (a'.tmps.getD 117 undef), (a'.tmps.getD 118 undef), (a'.tmps.getD 119 undef), (a'.tmps.getD 120 undef), (a'.tmps.getD 121 undef), (a'.tmps.getD 122 undef), (a'.tmps.getD 123 undef), (a'.tmps.getD 124 undef), (a'.tmps.getD 125 undef), (a'.tmps.getD 126 undef), (a'.tmps.getD 127 undef), (a'.tmps.getD 128 undef), (a'.tmps.getD 129 undef), (a'.tmps.getD 130 undef), (a'.tmps.getD 131 undef), (a'.tmps.getD 132 undef)], defers := [] } → K6 a' w3 := by
    intro dd a' hdd hd50 ha
    have HDD := Aside0.mk (And.intro hdd hd50)
    obtain ⟨U, hU⟩ : ∃ U : Nat → Value, U = fun i => a'.tmps.getD i undef := ⟨_, rfl⟩
    have ha2 : a' = { tmps := #[.pointer (some ⟨b, 0, none⟩), U 1, .int .i64 (dd : Int), U 3, .pointer (some ⟨bx, 0, none⟩), U 5, .pointer (some ⟨bs, 0, none⟩), U 7, U 8, U 9, U 10, U 11, U 12, U 13, U 14, U 15, U 16, U 17, U 18, U 19, U 20, U 21, U 22, U 23, U 24, U 25, U 26, U 27, U 28, U 29, U 30, U 31, U 32, U 33, U 34, U 35, U 36, U 37, U 38, U 39, U 40, U 41, U 42, U 43, U 44, U 45, U 46, U 47, U 48, U 49, U 50, U 51, U 52, U 53, U 54, U 55, U 56, U 57, U 58, U 59, U 60, U 61, U 62, U 63, U 64, U 65, U 66, U 67, U 68, U 69, U 70, U 71, U 72, U 73, U 74, U 75, U 76, U 77, U 78, U 79, U 80, U 81, U 82, U 83, U 84, U 85, U 86, U 87, U 88, U 89, U 90, U 91, U 92, U 93, U 94, U 95, U 96, U 97, U 98, U 99, U 100, U 101, U 102, U 103, U 104, U 105, U 106, U 107, U 108, U 109, U 110, U 111, U 112, U 113, U 114, U 115, U 116, U 117, U 118, U 119, U 120, U 121, U 122, U 123, U 124, U 125, U 126, U 127, U 128, U 129, U 130, U 131, U 132], defers := [] } := by rw [hU]; exact ha
    clear ha hU hdd
    subst ha2
    apply hK6
    clear hK6
    have hcx : ∀ j, w3.cell? ⟨bx, j, none⟩ = (#[.int .i64 op, .slice A ks.length c, .string nm, .string pr, .int .i64 v.k, .bool v.b, .int .i64 v.n, .string v.s, .slice v.A v.p.length v.c] : Array Value)[j]? := fun j => (HST3.out.cx j).trans (by rw [HXB.out])
    have hcs : ∀ j, w3.cell? ⟨bs, j, none⟩ = (#[.int .i64 s.lvl, .slice SA s.asks.length s.asks.length, .string ⟨s.ahead.toArray⟩, .string ⟨s.sign.toArray⟩, .string ⟨s.behind.toArray⟩] : Array Value)[j]? := fun j => (HST3.out.cs j).trans (by rw [HSB.out])
    go_upto_region 7 with (go_at_call 28; refine (HST3.out.1.say ⟨s.ahead.toArray⟩ (by have h := HSF.out.2.2.1; simp [ByteArray.size]; omega)).mono ?_; rintro e w4 ⟨rfl, h_w4, k_w4⟩)
    have HST4 : Aside0 (Stt w0 w b bx bs xb sb SA s.asks (T ++ s.ahead) false w4) := ⟨HST3.out.step (by simpa using h_w4) k_w4⟩
    clear h_w4 k_w4 hcx hcs
    rename_i K14 hK14 K8 hK8
    have HR14 : ∀ (w5 : World) (a' : Act), Stt w0 w b bx bs xb sb SA s.asks (T ++ (s.ahead ++ coreX op nm pr v)) false w5 → a' = { tmps := #[.pointer (some ⟨b, 0, none⟩), (a'.tmps.getD 1 undef), .int .i64 (dd : Int), (a'.tmps.getD 3 undef), .pointer (some ⟨bx, 0, none⟩), (a'.tmps.getD 5 undef), .pointer (some ⟨bs, 0, none⟩), (a'.tmps.getD 7 undef), (a'.tmps.getD 8 undef), (a'.tmps.getD 9 undef), (a'.tmps.getD 10 undef), (a'.tmps.getD 11 undef), (a'.tmps.getD 12 undef), (a'.tmps.getD 13 undef), (a'.tmps.getD 14 undef), (a'.tmps.getD 15 undef), (a'.tmps.getD 16 undef), (a'.tmps.getD 17 undef), (a'.tmps.getD 18 undef), (a'.tmps.getD 19 undef), (a'.tmps.getD 20 undef), (a'.tmps.getD 21 undef), (a'.tmps.getD 22 undef), (a'.tmps.getD 23 undef), (a'.tmps.getD 24 undef), (a'.tmps.getD 25 undef), (a'.tmps.getD 26 undef), (a'.tmps.getD 27 undef), (a'.tmps.getD 28 undef), (a'.tmps.getD 29 undef), (a'.tmps.getD 30 undef), (a'.tmps.getD 31 undef), (a'.tmps.getD 32 undef), (a'.tmps.getD 33 undef), (a'.tmps.getD 34 undef), (a'.tmps.getD 35 undef), (a'.tmps.getD 36 undef), (a'.tmps.getD 37 undef), (a'.tmps.getD 38 undef), (a'.tmps.getD 39 undef), (a'.tmps.getD 40 undef), (a'.tmps.getD 41 undef), (a'.tmps.getD 42 undef), (a'.tmps.getD 43 undef), (a'.tmps.getD 44 undef), (a'.tmps.getD 45 undef), (a'.tmps.getD 46 undef), (a'.tmps.getD 47 undef), (a'.tmps.getD 48 undef), (a'.tmps.getD 49 undef), (a'.tmps.getD 50 undef), (a'.tmps.getD 51 undef), (a'.tmps.getD 52 undef), (a'.tmps.getD 53 undef), (a'.tmps.getD 54 undef), (a'.tmps.getD 55 undef), (a'.tmps.getD 56 undef), (a'.tmps.getD 57 undef), (a'.tmps.getD 58 undef), (a'.tmps.getD 59 undef), (a'.tmps.getD 60 undef), (a'.tmps.getD 61 undef), (a'.tmps.getD 62 undef), (a'.tmps.getD 63 undef), (a'.tmps.getD 64 undef), (a'.tmps.getD 65 undef), (a'.tmps.getD 66 undef), (a'.tmps.getD 67 undef), (a'.tmps.getD 68 undef), (a'.tmps.getD 69 undef), (a'.tmps.getD 70 undef), (a'.tmps.getD 71 undef), (a'.tmps.getD 72 undef), (a'.tmps.getD 73 undef), (a'.tmps.getD 74 undef), (a'.tmps.getD 75 undef), (a'.tmps.getD 76 undef), (a'.tmps.getD 77 undef), (a'.tmps.getD 78 undef), (a'.tmps.getD 79 undef), (a'.tmps.getD 80 undef), (a'.tmps.getD 81 undef), (a'.tmps.getD 82 undef), (a'.tmps.getD 83 undef), (a'.tmps.getD 84 undef), (a'.tmps.getD 85 undef), (a'.tmps.getD 86 undef), (a'.tmps.getD 87 undef), (a'.tmps.getD 88 undef), (a'.tmps.getD 89 undef), (a'.tmps.getD 90 undef), (a'.tmps.getD 91 undef), (a'.tmps.getD 92 undef), (a'.tmps.getD 93 undef), (a'.tmps.getD 94 undef), (a'.tmps.getD 95 undef), (a'.tmps.getD 96 undef), (a'.tmps.getD 97 undef), (a'.tmps.getD 98 undef), (a'.tmps.getD 99 undef), (a'.tmps.getD 100 undef), (a'.tmps.getD 101 undef), (a'.tmps.getD 102 undef), (a'.tmps.getD 103 undef), (a'.tmps.getD 104 undef), (a'.tmps.getD 105 undef), (a'.tmps.getD 106 undef), (a'.tmps.getD 107 undef), (a'.tmps.getD 108 undef), (a'.tmps.getD 109 undef), (a'.tmps.getD 110 undef), (a'.tmps.getD 111 undef), (a'.tmps.getD 112 undef), (a'.tmps.getD 113 undef), (a'.tmps.getD 114 undef), (a'.tmps.getD 115 undef), (a'.tmps.getD 116 undef), (a'.tmps.getD 117 undef), (a'.tmps.getD 118 undef), (a'.tmps.getD 119 undef), (a'.tmps.getD 120 undef), (a'.tmps.getD 121 undef), (a'.tmps.getD 122 undef), (a'.tmps.getD 123 undef), (a'.tmps.getD 124 undef), (a'.tmps.getD 125 undef), (a'.tmps.getD 126 undef), (a'.tmps.getD 127 undef), (a'.tmps.getD 128 undef), (a'.tmps.getD 129 undef), (a'.tmps.getD 130 undef), (a'.tmps.getD 131 undef), (a'.tmps.getD 132 undef)], defers := [] } → K14 a' w5 := by
      intro w5 a' hst5 ha
      have HST5 := Aside0.mk hst5
      obtain ⟨U, hU⟩ : ∃ U : Nat → Value, U = fun i => a'.tmps.getD i undef := ⟨_, rfl⟩
      have ha2 : a' = { tmps := #[.pointer (some ⟨b, 0, none⟩), U 1, .int .i64 (dd : Int), U 3, .pointer (some ⟨bx, 0, none⟩), U 5, .pointer (some ⟨bs, 0, none⟩), U 7, U 8, U 9, U 10, U 11, U 12, U 13, U 14, U 15, U 16, U 17, U 18, U 19, U 20, U 21, U 22, U 23, U 24, U 25, U 26, U 27, U 28, U 29, U 30, U 31, U 32, U 33, U 34, U 35, U 36, U 37, U 38, U 39, U 40, U 41, U 42, U 43, U 44, U 45, U 46, U 47, U 48, U 49, U 50, U 51, U 52, U 53, U 54, U 55, U 56, U 57, U 58, U 59, U 60, U 61, U 62, U 63, U 64, U 65, U 66, U 67, U 68, U 69, U 70, U 71, U 72, U 73, U 74, U 75, U 76, U 77, U 78, U 79, U 80, U 81, U 82, U 83, U 84, U 85, U 86, U 87, U 88, U 89, U 90, U 91, U 92, U 93, U 94, U 95, U 96, U 97, U 98, U 99, U 100, U 101, U 102, U 103, U 104, U 105, U 106, U 107, U 108, U 109, U 110, U 111, U 112, U 113, U 114, U 115, U 116, U 117, U 118, U 119, U 120, U 121, U 122, U 123, U 124, U 125, U 126, U 127, U 128, U 129, U 130, U 131, U 132], defers := [] } := by rw [hU]; exact ha
      clear ha hU hst5
      subst ha2
      apply hK14
      clear hK14 hK8
      obtain ⟨n, hn⟩ : ∃ n, n = ks.length := ⟨_, rfl⟩
      have hc1 : w5.cell? ⟨bx, 1, none⟩ = some (.slice A n c) := (HST5.out.cx 1).trans (by rw [HXB.out, hn]; rfl)
      have HN := Aside0.mk hn
      have hn9 : (n : Int) ≤ 2 := by have h1 := HKL.out; have h2 := HSF.out.2.1; omega
      clear hn
      go_wp2
      go_loopg [83] (n + 1) (fun gg s83 wr => ∃ (j : Nat) (Tj : List UInt8) (fj : Bool), j ≤ n ∧ n < gg + j ∧ s83 = .int .i64 j ∧ Aside0 (Stt w0 w b bx bs xb sb SA s.asks Tj fj wr) ∧ Aside0 (FL = (fj || !okK (ks.drop j) (s.asks.drop j) dd)) ∧ Aside0 (FT = Tj ++ (textK (ks.drop j) (s.asks.drop j) s.sign (decide (j = 0)) ++ s.behind)))
      case atStart =>
        refine ⟨0, _, false, by omega, by omega, rfl, HST5, ⟨?_⟩, ⟨?_⟩⟩
        · rw [HFL.out, ← HDD.out.1, decide_eq_true HDD.out.2]; simp
        · rw [HFT.out]; simp [List.append_assoc]
      case round =>
        obtain ⟨j, Tj, fj, hj, hg, rfl, HST, HFLJ, HFTJ⟩ := hrel
        have hj0 : (0 : Int) ≤ (j : Int) := by omega
        by_cases hjn : j < n
        · have hjni : (j : Int) < (n : Int) := by omega
          have hjl : j < ks.length := by have := HN.out; omega
          have hja : j < s.asks.length := by have := HKL.out; omega
          obtain ⟨a, hAe, hb, hsp, hcc⟩ := HX.out.row j hjl
          subst hAe
          have hmem : ks.getD j XD.zero ∈ ks := by rw [List.getD_eq_getElem?_getD, List.getElem?_eq_getElem hjl]; exact List.getElem_mem _
          have hxk := HX.out.kid _ hmem
          have hex := HKID.out _ hmem
          have hdk := drop_kid ks XD.zero j hjl
          obtain ⟨k, hke⟩ : ∃ k, k = ks.getD j XD.zero := ⟨_, rfl⟩
          rw [← hke] at hcc hxk hex hdk
          have hokk : okK (ks.drop j) (s.asks.drop j) dd = ((if s.asks.getD j 0 ≤ lvlD k.op then okX k dd else decide (dd < 50) && okX k (dd + 1)) && okK (ks.drop (j + 1)) (s.asks.drop (j + 1)) dd) := by rw [hdk, okK_cons, head_drop, tail_drop]
          have htxk : textK (ks.drop j) (s.asks.drop j) s.sign (decide (j = 0)) = (if decide (j = 0) then [] else s.sign) ++ ((if s.asks.getD j 0 ≤ lvlD k.op then textX k else 40 :: (textX k ++ [41])) ++ textK (ks.drop (j + 1)) (s.asks.drop (j + 1)) s.sign false) := by rw [hdk, textK_cons, head_drop, tail_drop]
          obtain ⟨lv, hlv⟩ : ∃ lv, lv = lvlD k.op := ⟨_, rfl⟩
          rw [← hlv] at hokk htxk
          have HEQ := Aside0.mk (And.intro hokk htxk)
          have hsk := fun W => shape_any k.op W
          obtain ⟨sk, hske⟩ : ∃ sk, sk = (shpD k.op).getD Shp.zero := ⟨_, rfl⟩
          rw [← hske] at hsk
          have HLV : Aside0 (sk.lvl = lv) := ⟨by rw [hlv, hske, lvlD]; cases shpD k.op <;> rfl⟩
          clear hokk htxk hdk hke hmem hske hc1 hlv
          have HXK := Aside0.mk hxk
          unfold ExprOk at hex
          obtain ⟨kop, kA, kks, kc, knm, kpr, ⟨kk, kb, kn, kx, kpA, kp, kpc⟩⟩ := k
          dsimp only [XD.op, XD.A, XD.ks, XD.c, XD.nm, XD.pr, XD.v] at hex hsk HEQ
          have HEX := Aside0.mk hex
          have HSK := Aside0.mk hsk
          have hb9 := Nat.lt_of_lt_of_le hb HST.out.1.base.size
          have c0 : wr.cell? (a.add (j * 9)) = some (.int .i64 kop) := by
            have e0 : (⟨(a.add (j * 9)).block, (a.add (j * 9)).off + 0, none⟩ : Addr) = a.add (j * 9) := by rw [← hsp]; rfl
            rw [← e0]
            exact (HST.out.1.base.cell (p := ⟨(a.add (j * 9)).block, (a.add (j * 9)).off + 0, none⟩) hb).trans (hcc 0 (by omega))
          have c1 : wr.cell? ⟨(a.add (j * 9)).block, (a.add (j * 9)).off + 1, none⟩ = some (.slice kA kks.length kc) := (HST.out.1.base.cell (p := ⟨(a.add (j * 9)).block, (a.add (j * 9)).off + 1, none⟩) hb).trans (hcc 1 (by omega))
          have c2 : wr.cell? ⟨(a.add (j * 9)).block, (a.add (j * 9)).off + 2, none⟩ = some (.string knm) := (HST.out.1.base.cell (p := ⟨(a.add (j * 9)).block, (a.add (j * 9)).off + 2, none⟩) hb).trans (hcc 2 (by omega))
          have c3 : wr.cell? ⟨(a.add (j * 9)).block, (a.add (j * 9)).off + 3, none⟩ = some (.string kpr) := (HST.out.1.base.cell (p := ⟨(a.add (j * 9)).block, (a.add (j * 9)).off + 3, none⟩) hb).trans (hcc 3 (by omega))
          have c4 : wr.cell? ⟨(a.add (j * 9)).block, (a.add (j * 9)).off + 4, none⟩ = some (.int .i64 kk) := (HST.out.1.base.cell (p := ⟨(a.add (j * 9)).block, (a.add (j * 9)).off + 4, none⟩) hb).trans (hcc 4 (by omega))
          have c5 : wr.cell? ⟨(a.add (j * 9)).block, (a.add (j * 9)).off + 5, none⟩ = some (.bool kb) := (HST.out.1.base.cell (p := ⟨(a.add (j * 9)).block, (a.add (j * 9)).off + 5, none⟩) hb).trans (hcc 5 (by omega))
          have c6 : wr.cell? ⟨(a.add (j * 9)).block, (a.add (j * 9)).off + 6, none⟩ = some (.int .i64 kn) := (HST.out.1.base.cell (p := ⟨(a.add (j * 9)).block, (a.add (j * 9)).off + 6, none⟩) hb).trans (hcc 6 (by omega))
          have c7 : wr.cell? ⟨(a.add (j * 9)).block, (a.add (j * 9)).off + 7, none⟩ = some (.string kx) := (HST.out.1.base.cell (p := ⟨(a.add (j * 9)).block, (a.add (j * 9)).off + 7, none⟩) hb).trans (hcc 7 (by omega))
          have c8 : wr.cell? ⟨(a.add (j * 9)).block, (a.add (j * 9)).off + 8, none⟩ = some (.slice kpA kp.length kpc) := (HST.out.1.base.cell (p := ⟨(a.add (j * 9)).block, (a.add (j * 9)).off + 8, none⟩) hb).trans (hcc 8 (by omega))
          have HJ := Aside0.mk (And.intro hj hg)
          have HJL := Aside0.mk (And.intro hjn (And.intro hjl hja))
          obtain ⟨GJ, hGJ⟩ : ∃ GJ, GJ = gk := ⟨_, rfl⟩
          have HGJ := Aside0.mk hGJ
          rw [← hGJ] at HJ
          clear hGJ hj hg hcc hex hxk hjl hja hb hsk
          go_upto_region 17 with (fail)
          obtain ⟨W6, hW6⟩ : ∃ W6, W6 = wr.alloc (.cells #[.int .i64 kop, .slice kA kks.length kc, .string knm, .string kpr, .int .i64 kk, .bool kb, .int .i64 kn, .string kx, .slice kpA kp.length kpc] 29) := ⟨_, rfl⟩
          obtain ⟨kx0, hkx⟩ : ∃ kx0, kx0 = wr.heap.size := ⟨_, rfl⟩
          have HK6 : Aside0 (BX W6 kx0 #[.int .i64 kop, .slice kA kks.length kc, .string knm, .string kpr, .int .i64 kk, .bool kb, .int .i64 kn, .string kx, .slice kpA kp.length kpc] 29) := ⟨by rw [hW6, hkx]; exact BX.new wr _ _⟩
          have HST6 : Aside0 (Stt w0 w b bx bs xb sb SA s.asks Tj fj W6) := ⟨by rw [hW6]; exact HST.out.alloc _⟩
          rw [← hW6, ← hkx]
          clear hW6 hkx c0 c1 c2 c3 c4 c5 c6 c7 c8 hb9 hsp
          rename_i K19 hK19 K18 hK18
          have HR19 : ∀ (w7 : World) (T7 : List UInt8) (a' : Act), Stt w0 w b bx bs xb sb SA s.asks T7 fj w7 → BX w7 kx0 #[.int .i64 kop, .slice kA kks.length kc, .string knm, .string kpr, .int .i64 kk, .bool kb, .int .i64 kn, .string kx, .slice kpA kp.length kpc] 29 → T7 = Tj ++ (if decide (j = 0) then [] else s.sign) → a' = { tmps := #[.pointer (some ⟨b, 0, none⟩), U 1, .int .i64 (dd : Int), U 3, .pointer (some ⟨bx, 0, none⟩), U 5, .pointer (some ⟨bs, 0, none⟩), .int .i64 (j : Int), .pointer (some ⟨kx0, 0, none⟩), U 9, U 10, U 11, U 12, U 13, U 14, U 15, U 16, U 17, U 18, U 19, U 20, U 21, U 22, U 23, U 24, U 25, U 26, U 27, U 28, U 29, U 30, U 31, U 32, U 33, U 34, U 35, U 36, U 37, U 38, U 39, U 40, U 41, U 42, U 43, U 44, U 45, U 46, U 47, U 48, U 49, U 50, U 51, U 52, U 53, U 54, U 55, U 56, U 57, U 58, U 59, U 60, U 61, U 62, U 63, U 64, U 65, U 66, U 67, U 68, U 69, U 70, U 71, U 72, U 73, U 74, U 75, U 76, U 77, U 78, U 79, .pointer (some ⟨bx, 1, none⟩), .slice (some a) n c, .int .i64 (n : Int), .int .i64 (j : Int), (a'.tmps.getD 84 undef), (a'.tmps.getD 85 undef), (a'.tmps.getD 86 undef), (a'.tmps.getD 87 undef), (a'.tmps.getD 88 undef), (a'.tmps.getD 89 undef), (a'.tmps.getD 90 undef), (a'.tmps.getD 91 undef), (a'.tmps.getD 92 undef), (a'.tmps.getD 93 undef), (a'.tmps.getD 94 undef), (a'.tmps.getD 95 undef), (a'.tmps.getD 96 undef), (a'.tmps.getD 97 undef), (a'.tmps.getD 98 undef), (a'.tmps.getD 99 undef), (a'.tmps.getD 100 undef), (a'.tmps.getD 101 undef), (a'.tmps.getD 102 undef), (a'.tmps.getD 103 undef), (a'.tmps.getD 104 undef), (a'.tmps.getD 105 undef), (a'.tmps.getD 106 undef), (a'.tmps.getD 107 undef), (a'.tmps.getD 108 undef), (a'.tmps.getD 109 undef), (a'.tmps.getD 110 undef), (a'.tmps.getD 111 undef), (a'.tmps.getD 112 undef), (a'.tmps.getD 113 undef), (a'.tmps.getD 114 undef), (a'.tmps.getD 115 undef), (a'.tmps.getD 116 undef), (a'.tmps.getD 117 undef), (a'.tmps.getD 118 undef), (a'.tmps.getD 119 undef), (a'.tmps.getD 120 undef), (a'.tmps.getD 121 undef), (a'.tmps.getD 122 undef), (a'.tmps.getD 123 undef), (a'.tmps.getD 124 undef), U 125, U 126, U 127, U 128, U 129, U 130, U 131, U 132], defers := [] } → K19 a' w7 := by
            intro w7 T7 a' hst7 hkx7 hT7 ha
            have HST7 := Aside0.mk hst7
            have HKX7 := Aside0.mk hkx7
            have HT7 := Aside0.mk hT7
            obtain ⟨V, hU⟩ : ∃ U : Nat → Value, U = fun i => a'.tmps.getD i undef := ⟨_, rfl⟩
            have ha2 : a' = { tmps := #[.pointer (some ⟨b, 0, none⟩), U 1, .int .i64 (dd : Int), U 3, .pointer (some ⟨bx, 0, none⟩), U 5, .pointer (some ⟨bs, 0, none⟩), .int .i64 (j : Int), .pointer (some ⟨kx0, 0, none⟩), U 9, U 10, U 11, U 12, U 13, U 14, U 15, U 16, U 17, U 18, U 19, U 20, U 21, U 22, U 23, U 24, U 25, U 26, U 27, U 28, U 29, U 30, U 31, U 32, U 33, U 34, U 35, U 36, U 37, U 38, U 39, U 40, U 41, U 42, U 43, U 44, U 45, U 46, U 47, U 48, U 49, U 50, U 51, U 52, U 53, U 54, U 55, U 56, U 57, U 58, U 59, U 60, U 61, U 62, U 63, U 64, U 65, U 66, U 67, U 68, U 69, U 70, U 71, U 72, U 73, U 74, U 75, U 76, U 77, U 78, U 79, .pointer (some ⟨bx, 1, none⟩), .slice (some a) n c, .int .i64 (n : Int), .int .i64 (j : Int), V 84, V 85, V 86, V 87, V 88, V 89, V 90, V 91, V 92, V 93, V 94, V 95, V 96, V 97, V 98, V 99, V 100, V 101, V 102, V 103, V 104, V 105, V 106, V 107, V 108, V 109, V 110, V 111, V 112, V 113, V 114, V 115, V 116, V 117, V 118, V 119, V 120, V 121, V 122, V 123, V 124, U 125, U 126, U 127, U 128, U 129, U 130, U 131, U 132], defers := [] } := by rw [hU]; exact ha
            clear ha hU hst7 hkx7 hT7
            subst ha2
            apply hK19
            clear hK19 hK18
            have HK7 : Aside0 (∀ WW, Below w7.heap.size w7 WW → WW.cell? ⟨kx0, 0, none⟩ = some (.int .i64 kop)) := ⟨fun WW hW => (HKX7.out.below hW).cells 0⟩
            obtain ⟨r, hSA, har⟩ := HST7.out.ask j HJL.out.2.2
            have HS7 : Aside0 (∀ WW, Below w7.heap.size w7 WW → WW.cell? ⟨bs, 1, none⟩ = some (.slice (some ⟨r, 0, none⟩) s.asks.length s.asks.length)) := ⟨fun WW hW => ((HST7.out.below hW).cs 1).trans (by rw [HSB.out, hSA]; rfl)⟩
            obtain ⟨aj, haj⟩ : ∃ aj, aj = s.asks.getD j 0 := ⟨_, rfl⟩
            rw [← haj] at har
            have HA7 : Aside0 (∀ WW, Below w7.heap.size w7 WW → WW.cell? ⟨r, j, none⟩ = some (.int .i64 aj)) := ⟨fun WW hW => (hW.cell (p := ⟨r, j, none⟩) (World.block_lt_of_cell? w7 _ har)).trans har⟩
            have HAJ := Aside0.mk haj
            obtain ⟨m, hm⟩ : ∃ m, m = s.asks.length := ⟨_, rfl⟩
            rw [← hm] at HS7
            have hjm : j < m := by rw [hm]; exact HJL.out.2.2
            have hjmi : (j : Int) < (m : Int) := by omega
            have hadd : (⟨r, 0, none⟩ : Addr).add j = ⟨r, j, none⟩ := by cases j <;> simp [Addr.add]
            clear haj hm hSA har
            by_cases hge : aj ≤ sk.lvl
            · have hgeb : ¬ sk.lvl < aj := by omega
              go_upto_region 19 with (fail)
              refine wp_region_held_drew (S := (fun WW => Below w7.heap.size w7 WW)) (by kernel_rfl) ?_ (fun hHeld => ?_)
              · (first | exact HB8 | exact Below.refl _ _ | exact below_drew (Below.refl _ _))
              refine take_in (i := 0) (v := ?v0a) rfl (by kernel_rfl) (by kernel_rfl) (by kernel_rfl) (fun _ _ _ h => h) (by rfl) ?hy0a (by assumption) ?_
              case hy0a => intro WW hSw; (try dsimp only at hSw); go_simp; try with_reducible rfl
              try simp only [Act.put, List.setIfInBounds_toArray, List.set_cons_zero, List.set_cons_succ]
              refine take_in (i := 1) (v := ?v1a) rfl (by kernel_rfl) (by kernel_rfl) (by kernel_rfl) (fun _ _ _ h => h) (by rfl) ?hy1a (by assumption) ?_
              case hy1a => intro WW hSw; have h1 := HK7.out WW hSw; have h2 := HS7.out WW hSw; have h3 := HA7.out WW hSw; have h4 := hadd; go_simp; try with_reducible rfl
              try simp only [Act.put, List.setIfInBounds_toArray, List.set_cons_zero, List.set_cons_succ]
              refine take_in (i := 4) (v := ?v4a) rfl (by kernel_rfl) (by kernel_rfl) (by kernel_rfl) (fun _ _ _ h => h) (by rfl) ?hy4a (by assumption) ?_
              case hy4a => intro WW hSw; (try dsimp only at hSw); go_simp; try with_reducible rfl
              try simp only [Act.put, List.setIfInBounds_toArray, List.set_cons_zero, List.set_cons_succ]
              refine take_in (i := 5) (v := ?v5a) rfl (by kernel_rfl) (by kernel_rfl) (by kernel_rfl) (fun _ _ _ h => h) (by rfl) ?hy5a (by assumption) ?_
              case hy5a => intro WW hSw; have h1 := HK7.out WW hSw; have h2 := HS7.out WW hSw; have h3 := HA7.out WW hSw; have h4 := hadd; go_simp; try with_reducible rfl
              try simp only [Act.put, List.setIfInBounds_toArray, List.set_cons_zero, List.set_cons_succ]
              refine take_in (i := 6) (v := ?v6a) rfl (by kernel_rfl) (by kernel_rfl) (by kernel_rfl) (fun _ _ _ h => h) (by rfl) ?hy6a (by assumption) ?_
              case hy6a => intro WW hSw; (try dsimp only at hSw); go_simp; try with_reducible rfl
              try simp only [Act.put, List.setIfInBounds_toArray, List.set_cons_zero, List.set_cons_succ]
              refine take_in (i := 7) (v := .pointer (some ⟨r, j, none⟩)) rfl (by kernel_rfl) (by kernel_rfl) (by kernel_rfl) (fun _ _ _ h => h) (by rfl) ?hy7a (by assumption) ?_
              case hy7a => intro WW hSw; have h4 := hadd; go_simp; try with_reducible rfl
              try simp only [Act.put, List.setIfInBounds_toArray, List.set_cons_zero, List.set_cons_succ]
              refine take_in (i := 8) (v := ?v8a) rfl (by kernel_rfl) (by kernel_rfl) (by kernel_rfl) (fun _ _ _ h => h) (by rfl) ?hy8a (by assumption) ?_
              case hy8a => intro WW hSw; have h1 := HK7.out WW hSw; have h2 := HS7.out WW hSw; have h3 := HA7.out WW hSw; have h4 := hadd; go_simp; try with_reducible rfl
              try simp only [Act.put, List.setIfInBounds_toArray, List.set_cons_zero, List.set_cons_succ]
              refine one_step (i := 2) (by kernel_rfl) rfl (fun K hK => ?_)
              go_simp
              go_at_call 36
              refine (HSK.out _).mono ?_
              rintro e w8 ⟨KA, rfl, hA8, hb8⟩
              unfold shapeV
              have HB8 : Below w7.heap.size w7 w8 := below_then (by first | exact Below.refl _ _ | exact below_drew (Below.refl _ _)) hb8
              refine hK.out _ _ ?_ (fun hHeld => ?_)
              · (first | exact HB8 | exact Below.refl _ _ | exact below_drew (Below.refl _ _))
              clear hK K
              try simp only [Act.put, List.setIfInBounds_toArray, List.set_cons_zero, List.set_cons_succ]
              refine take_in (i := 3) (v := ?v3a) rfl (by kernel_rfl) (by kernel_rfl) (by kernel_rfl) (fun _ _ _ h => h) (by rfl) ?hy3a (by assumption) ?_
              case hy3a => intro WW hSw; have hh := fld_shape; go_simp; try with_reducible rfl
              try simp only [Act.put, List.setIfInBounds_toArray, List.set_cons_zero, List.set_cons_succ]
              refine take_in (i := 9) (v := .bool true) rfl (by kernel_rfl) (by kernel_rfl) (by kernel_rfl) (fun _ _ _ h => h) (by rfl) ?hy9a (by assumption) ?_
              case hy9a => intro WW hSw; have hh := hge; go_simp; try with_reducible rfl
              try simp only [Act.put, List.setIfInBounds_toArray, List.set_cons_zero, List.set_cons_succ]
              refine wpAnyH_done (by kernel_rfl) ?_ _
              have HST8 : Aside0 (Stt w0 w b bx bs xb sb SA s.asks T7 fj w8) := ⟨HST7.out.below HB8⟩
              have HKX8 : Aside0 (BX w8 kx0 #[.int .i64 kop, .slice kA kks.length kc, .string knm, .string kpr, .int .i64 kk, .bool kb, .int .i64 kn, .string kx, .slice kpA kp.length kpc] 29) := ⟨HKX7.out.below HB8⟩
              have hkc := HKX8.out.cells
              clear HB8 hA8 hb8
              clear hgeb
              have HGE := Aside0.mk hge
              clear hge
              go_wp2_with (go_at_call 14; refine (HEX.out dd T7 fj _ HST8.out.1 (by have := HDD.out.2; omega) (fun _ => HDD.out.2)).mono ?_; rintro e w9 ⟨rfl, h9, k9⟩)
              have HST9 : Aside0 (Stt w0 w b bx bs xb sb SA s.asks _ _ w9) := ⟨HST8.out.step h9 k9⟩
              clear h9 k9 hkc
              go_roundg (GJ - 1)
              case measure => have := HJ.out; have := HGJ.out; omega
              case rel =>
                refine ⟨j + 1, _, _, by have := HJL.out; omega, by have := HJ.out; have := HJL.out; omega, by first | rfl | go_num, HST9, ⟨?_⟩, ⟨?_⟩⟩
                · rw [HFLJ.out, HEQ.out.1, ← HAJ.out, if_pos (show aj ≤ lv by rw [← HLV.out]; exact HGE.out)]; cases fj <;> cases okX (.mk kop kA kks kc knm kpr ⟨kk, kb, kn, kx, kpA, kp, kpc⟩) dd <;> simp
                · rw [HFTJ.out, HEQ.out.2, ← HAJ.out, if_pos (show aj ≤ lv by rw [← HLV.out]; exact HGE.out), HT7.out, decide_eq_false (show ¬ j + 1 = 0 by omega)]; simp [List.append_assoc]
            · have hgeb : sk.lvl < aj := by omega
              go_upto_region 19 with (fail)
              refine wp_region_held_drew (S := (fun WW => Below w7.heap.size w7 WW)) (by kernel_rfl) ?_ (fun hHeld => ?_)
              · (first | exact HB8 | exact Below.refl _ _ | exact below_drew (Below.refl _ _))
              refine take_in (i := 0) (v := ?v0b) rfl (by kernel_rfl) (by kernel_rfl) (by kernel_rfl) (fun _ _ _ h => h) (by rfl) ?hy0b (by assumption) ?_
              case hy0b => intro WW hSw; (try dsimp only at hSw); go_simp; try with_reducible rfl
              try simp only [Act.put, List.setIfInBounds_toArray, List.set_cons_zero, List.set_cons_succ]
              refine take_in (i := 1) (v := ?v1b) rfl (by kernel_rfl) (by kernel_rfl) (by kernel_rfl) (fun _ _ _ h => h) (by rfl) ?hy1b (by assumption) ?_
              case hy1b => intro WW hSw; have h1 := HK7.out WW hSw; have h2 := HS7.out WW hSw; have h3 := HA7.out WW hSw; have h4 := hadd; go_simp; try with_reducible rfl
              try simp only [Act.put, List.setIfInBounds_toArray, List.set_cons_zero, List.set_cons_succ]
              refine take_in (i := 4) (v := ?v4b) rfl (by kernel_rfl) (by kernel_rfl) (by kernel_rfl) (fun _ _ _ h => h) (by rfl) ?hy4b (by assumption) ?_
              case hy4b => intro WW hSw; (try dsimp only at hSw); go_simp; try with_reducible rfl
              try simp only [Act.put, List.setIfInBounds_toArray, List.set_cons_zero, List.set_cons_succ]
              refine take_in (i := 5) (v := ?v5b) rfl (by kernel_rfl) (by kernel_rfl) (by kernel_rfl) (fun _ _ _ h => h) (by rfl) ?hy5b (by assumption) ?_
              case hy5b => intro WW hSw; have h1 := HK7.out WW hSw; have h2 := HS7.out WW hSw; have h3 := HA7.out WW hSw; have h4 := hadd; go_simp; try with_reducible rfl
              try simp only [Act.put, List.setIfInBounds_toArray, List.set_cons_zero, List.set_cons_succ]
              refine take_in (i := 6) (v := ?v6b) rfl (by kernel_rfl) (by kernel_rfl) (by kernel_rfl) (fun _ _ _ h => h) (by rfl) ?hy6b (by assumption) ?_
              case hy6b => intro WW hSw; (try dsimp only at hSw); go_simp; try with_reducible rfl
              try simp only [Act.put, List.setIfInBounds_toArray, List.set_cons_zero, List.set_cons_succ]
              refine take_in (i := 7) (v := .pointer (some ⟨r, j, none⟩)) rfl (by kernel_rfl) (by kernel_rfl) (by kernel_rfl) (fun _ _ _ h => h) (by rfl) ?hy7b (by assumption) ?_
              case hy7b => intro WW hSw; have h4 := hadd; go_simp; try with_reducible rfl
              try simp only [Act.put, List.setIfInBounds_toArray, List.set_cons_zero, List.set_cons_succ]
              refine take_in (i := 8) (v := ?v8b) rfl (by kernel_rfl) (by kernel_rfl) (by kernel_rfl) (fun _ _ _ h => h) (by rfl) ?hy8b (by assumption) ?_
              case hy8b => intro WW hSw; have h1 := HK7.out WW hSw; have h2 := HS7.out WW hSw; have h3 := HA7.out WW hSw; have h4 := hadd; go_simp; try with_reducible rfl
              try simp only [Act.put, List.setIfInBounds_toArray, List.set_cons_zero, List.set_cons_succ]
              refine one_step (i := 2) (by kernel_rfl) rfl (fun K hK => ?_)
              go_simp
              go_at_call 36
              refine (HSK.out _).mono ?_
              rintro e w8 ⟨KA, rfl, hA8, hb8⟩
              unfold shapeV
              have HB8 : Below w7.heap.size w7 w8 := below_then (by first | exact Below.refl _ _ | exact below_drew (Below.refl _ _)) hb8
              refine hK.out _ _ ?_ (fun hHeld => ?_)
              · (first | exact HB8 | exact Below.refl _ _ | exact below_drew (Below.refl _ _))
              clear hK K
              try simp only [Act.put, List.setIfInBounds_toArray, List.set_cons_zero, List.set_cons_succ]
              refine take_in (i := 3) (v := ?v3b) rfl (by kernel_rfl) (by kernel_rfl) (by kernel_rfl) (fun _ _ _ h => h) (by rfl) ?hy3b (by assumption) ?_
              case hy3b => intro WW hSw; have hh := fld_shape; go_simp; try with_reducible rfl
              try simp only [Act.put, List.setIfInBounds_toArray, List.set_cons_zero, List.set_cons_succ]
              refine take_in (i := 9) (v := .bool false) rfl (by kernel_rfl) (by kernel_rfl) (by kernel_rfl) (fun _ _ _ h => h) (by rfl) ?hy9b (by assumption) ?_
              case hy9b => intro WW hSw; have hh := hge; go_simp; try with_reducible rfl
              try simp only [Act.put, List.setIfInBounds_toArray, List.set_cons_zero, List.set_cons_succ]
              refine wpAnyH_done (by kernel_rfl) ?_ _
              have HST8 : Aside0 (Stt w0 w b bx bs xb sb SA s.asks T7 fj w8) := ⟨HST7.out.below HB8⟩
              have HKX8 : Aside0 (BX w8 kx0 #[.int .i64 kop, .slice kA kks.length kc, .string knm, .string kpr, .int .i64 kk, .bool kb, .int .i64 kn, .string kx, .slice kpA kp.length kpc] 29) := ⟨HKX7.out.below HB8⟩
              have hkc := HKX8.out.cells
              clear HB8 hA8 hb8
              clear hgeb
              have HGE := Aside0.mk hge
              clear hge
              have hwant := HST8.out.1.want (decide ((dd : Int) < 50))
              go_upto_region 22 with (go_at_call 18; refine hwant.mono ?_; rintro e w9 ⟨rfl, h9, k9⟩)
              have HST9 : Aside0 (Stt w0 w b bx bs xb sb SA s.asks _ _ w9) := ⟨HST8.out.step h9 k9⟩
              have HKX9 : Aside0 (BX w9 kx0 #[.int .i64 kop, .slice kA kks.length kc, .string knm, .string kpr, .int .i64 kk, .bool kb, .int .i64 kn, .string kx, .slice kpA kp.length kpc] 29) := ⟨HKX8.out.keep HST8.out.1 k9 (by decide) (by decide)⟩
              clear h9 k9 hkc hwant
              go_upto_region 23 with (go_at_call 28; refine (HST9.out.1.say ⟨#[40]⟩ (by decide)).mono ?_; rintro e w10 ⟨rfl, h_w10, k_w10⟩)
              have HST10 : Aside0 (Stt w0 w b bx bs xb sb SA s.asks _ _ w10) := ⟨HST9.out.step h_w10 k_w10⟩
              have HKX10 : Aside0 (BX w10 kx0 #[.int .i64 kop, .slice kA kks.length kc, .string knm, .string kpr, .int .i64 kk, .bool kb, .int .i64 kn, .string kx, .slice kpA kp.length kpc] 29) := ⟨HKX9.out.keep HST9.out.1 k_w10 (by decide) (by decide)⟩
              clear h_w10 k_w10
              have hkc := HKX10.out.cells
              have hcall := HEX.out (dd + 1) _ _ _ HST10.out.1 (by have := HDD.out.2; omega) (fun e => by
                  have h50 : decide ((dd : Int) < 50) = true := by revert e; cases fj <;> simp
                  have := of_decide_eq_true h50; omega)
              have hdd1 : ((dd : Int) + 1) = ((dd + 1 : Nat) : Int) := by omega
              rw [← hdd1] at hcall
              clear hdd1
              go_upto_region 24 with (go_at_call 14; refine hcall.mono ?_; rintro e w11 ⟨rfl, h11, k11⟩)
              have HST11 : Aside0 (Stt w0 w b bx bs xb sb SA s.asks _ _ w11) := ⟨HST10.out.step h11 k11⟩
              clear h11 k11 hkc hcall
              go_wp2_with (go_at_call 28; refine (HST11.out.1.say ⟨#[41]⟩ (by decide)).mono ?_; rintro e w12 ⟨rfl, h_w12, k_w12⟩)
              have HST12 : Aside0 (Stt w0 w b bx bs xb sb SA s.asks _ _ w12) := ⟨HST11.out.step h_w12 k_w12⟩
              clear h_w12 k_w12
              go_roundg (GJ - 1)
              case measure => have := HJ.out; have := HGJ.out; omega
              case rel =>
                refine ⟨j + 1, _, _, by have := HJL.out; omega, by have := HJ.out; have := HJL.out; omega, by first | rfl | go_num, HST12, ⟨?_⟩, ⟨?_⟩⟩
                · rw [HFLJ.out, HEQ.out.1, ← HAJ.out, if_neg (show ¬ aj ≤ lv by rw [← HLV.out]; exact Int.not_le.2 HGE.out), show decide ((dd : Int) < 50) = decide (dd < 50) from decide_eq_decide.2 (by omega)]; cases fj <;> cases decide (dd < 50) <;> cases okX (.mk kop kA kks kc knm kpr ⟨kk, kb, kn, kx, kpA, kp, kpc⟩) (dd + 1) <;> simp
                · rw [HFTJ.out, HEQ.out.2, ← HAJ.out, if_neg (show ¬ aj ≤ lv by rw [← HLV.out]; exact Int.not_le.2 HGE.out), HT7.out, decide_eq_false (show ¬ j + 1 = 0 by omega)]; simp [List.append_assoc]
          by_cases hjz : j = 0
          · have hjz2 : ¬ (0 : Int) < (j : Int) := by omega
            have HJZ := Aside0.mk hjz
            clear hjz
            go_wp2
            exact HR19 W6 Tj _ HST6.out HK6.out (by rw [decide_eq_true HJZ.out]; simp) rfl
          · have hjz2 : (0 : Int) < (j : Int) := by omega
            have HJZ := Aside0.mk hjz
            clear hjz
            have hs3 : W6.cell? ⟨bs, 3, none⟩ = some (.string ⟨s.sign.toArray⟩) := (HST6.out.cs 3).trans (by rw [HSB.out]; rfl)
            go_wp2_with (go_at_call 28; refine (HST6.out.1.say ⟨s.sign.toArray⟩ (by have h := HSF.out.2.2.2.1; simp [ByteArray.size]; omega)).mono ?_; rintro e w7 ⟨rfl, h_w7, k_w7⟩)
            exact HR19 w7 _ _ (HST6.out.step h_w7 k_w7) (HK6.out.keep HST6.out.1 k_w7 (by decide) (by decide)) (by rw [decide_eq_false HJZ.out]; simp) rfl
        · obtain rfl : j = n := by omega
          have hs4 : wr.cell? ⟨bs, 4, none⟩ = some (.string ⟨s.behind.toArray⟩) := (HST.out.cs 4).trans (by rw [HSB.out]; rfl)
          go_wp2_with (go_at_call 28; refine (HST.out.1.say ⟨s.behind.toArray⟩ (by have h := HSF.out.2.2.2.2.1; simp [ByteArray.size]; omega)).mono ?_; rintro e w13 ⟨rfl, h_w13, k_w13⟩)
          first | go_end0 | (simp only [Exit.jump]; refine bodyPost_ret (results_none rfl _ _ _) rfl ?_) | refine bodyPost_ret (results_none rfl _ _ _) rfl ?_
          refine ⟨rfl, ?_, HST.out.2.1.trans k_w13⟩
          have e1 : ks.drop j = [] := by rw [HN.out, List.drop_length]
          rw [HFLJ.out, HFTJ.out, e1, okK_nil, textK_nil]
          simpa using h_w13
    have hcx4 : ∀ j, w4.cell? ⟨bx, j, none⟩ = (#[.int .i64 op, .slice A ks.length c, .string nm, .string pr, .int .i64 v.k, .bool v.b, .int .i64 v.n, .string v.s, .slice v.A v.p.length v.c] : Array Value)[j]? := fun j => (HST4.out.cx j).trans (by rw [HXB.out])
    clear hK14
    have HOWN := Aside0.mk HX.out.own
    have HR14A := Aside0.mk HR14
    clear HR14
    by_cases h1 : op = 1
    · subst h1
      have hpq := HPP.out
      unfold plainB at hpq
      rw [if_pos rfl] at hpq
      simp only [Bool.and_eq_true, decide_eq_true_iff] at hpq
      have hlit := HST4.out.1.lit v HOWN.out.2.2.2.2 HOWN.out.2.2.2.1 HT.out hpq.1.1.2 hpq.1.2
      clear hpq
      go_wp2_with (go_at_call 38; refine hlit.mono ?_; rintro e w5 ⟨rfl, h5, k5⟩)
      exact HR14A.out w5 _ (HST4.out.step (by rw [List.append_assoc] at h5; exact h5) k5) rfl
    have e1 : (op == 1) = false := beq_eq_false_iff_ne.2 h1
    by_cases h2 : op = 2
    · subst h2
      clear e1 h1
      go_wp2_with (go_at_call 28; refine (HST4.out.1.say nm HOWN.out.1).mono ?_; rintro e w5 ⟨rfl, h_w5, k_w5⟩)
      exact HR14A.out w5 _ (HST4.out.step (by rw [List.append_assoc] at h_w5; exact h_w5) k_w5) rfl
    have e2 : (op == 2) = false := beq_eq_false_iff_ne.2 h2
    by_cases h3 : op = 3
    · subst h3
      clear e1 h1 e2 h2
      go_wp2_with (go_at_call 28; refine (HST4.out.1.say3 nm ⟨#[46]⟩ pr HOWN.out.1 (by decide) HOWN.out.2.1).mono ?_; rintro e w5 ⟨rfl, h5, k5⟩)
      exact HR14A.out w5 _ (HST4.out.step (by rw [List.append_assoc] at h5; exact h5) k5) rfl
    have e3 : (op == 3) = false := beq_eq_false_iff_ne.2 h3
    have hcore : coreX op nm pr v = [] := by unfold coreX; rw [if_neg h1, if_neg h2, if_neg h3]
    have HST5 : Aside0 (Stt w0 w b bx bs xb sb SA s.asks (T ++ (s.ahead ++ coreX op nm pr v)) false w4) := ⟨by rw [hcore, List.append_nil]; exact HST4.out⟩
    clear h1 h2 h3 hcore
    go_wp2
    exact HR14A.out w4 _ HST5.out rfl
  have hcx : ∀ j, w3.cell? ⟨bx, j, none⟩ = (#[.int .i64 op, .slice A ks.length c, .string nm, .string pr, .int .i64 v.k, .bool v.b, .int .i64 v.n, .string v.s, .slice v.A v.p.length v.c] : Array Value)[j]? := fun j => (HST3.out.cx j).trans (by rw [HXB.out])
  have hcs : ∀ j, w3.cell? ⟨bs, j, none⟩ = (#[.int .i64 s.lvl, .slice SA s.asks.length s.asks.length, .string ⟨s.ahead.toArray⟩, .string ⟨s.sign.toArray⟩, .string ⟨s.behind.toArray⟩] : Array Value)[j]? := fun j => (HST3.out.cs j).trans (by rw [HSB.out])
  have HRA := Aside0.mk HREST
  clear HREST hK6
  have HDB := Aside0.mk HSF.out.2.2.2.2.2
  by_cases h17 : op = 17
  · subst h17
    have hdi : (d : Int) ≤ 50 := by have := HD.out; omega
    have hdi0 : (0 : Int) ≤ (d : Int) := by omega
    have HDE : Aside0 (d + 1 = deepD 17 d) := ⟨rfl⟩
    by_cases h50 : d + 1 ≤ 50
    · have h50i : ¬ (50 : Int) < (d : Int) + 1 := by omega
      have H50 := Aside0.mk h50
      clear h50
      go_wp2
      exact HRA.out (d + 1) _ HDE.out H50.out rfl
    · have h50i : (50 : Int) < (d : Int) + 1 := by omega
      have HFLT : Aside0 (FL = true) := ⟨by rw [HFL.out, ← HDE.out, decide_eq_false h50]; rfl⟩
      clear h50
      go_wp2
      refine wp_goto ?_
      exact ⟨rfl, rfl, ⟨_, _, HST3.out.1⟩, HST3.out.2.1, HFLT.out⟩
  have e17 : (op == 17) = false := beq_eq_false_iff_ne.2 h17
  by_cases h18 : op = 18
  · subst h18
    clear e17 h17
    have hdi : (d : Int) ≤ 50 := by have := HD.out; omega
    have hdi0 : (0 : Int) ≤ (d : Int) := by omega
    have HDE : Aside0 (d + 1 = deepD 18 d) := ⟨rfl⟩
    by_cases h50 : d + 1 ≤ 50
    · have h50i : ¬ (50 : Int) < (d : Int) + 1 := by omega
      have H50 := Aside0.mk h50
      clear h50
      go_wp2
      exact HRA.out (d + 1) _ HDE.out H50.out rfl
    · have h50i : (50 : Int) < (d : Int) + 1 := by omega
      have HFLT : Aside0 (FL = true) := ⟨by rw [HFL.out, ← HDE.out, decide_eq_false h50]; rfl⟩
      clear h50
      go_wp2
      refine wp_goto ?_
      exact ⟨rfl, rfl, ⟨_, _, HST3.out.1⟩, HST3.out.2.1, HFLT.out⟩
  have e18 : (op == 18) = false := beq_eq_false_iff_ne.2 h18
  have HNE := Aside0.mk (And.intro h17 h18)
  clear h17 h18
  by_cases h8 : s.lvl = 8
  · have e8 : (s.lvl == 8) = true := beq_iff_eq.2 h8
    cases hea : s.ahead.isEmpty with
    | false =>
      have e4 := @isEmpty_list s.ahead
      have e5 := @isEmpty_list2 s.ahead
      rw [hea] at e4 e5
      have e6 : (⟨s.ahead.toArray⟩ : ByteArray).isEmpty = false := by cases hl : s.ahead with | nil => (rw [hl] at hea; cases hea) | cons x t => rfl
      have HDQ : Aside0 (deepB op = true) := ⟨by rw [HDB.out, h8, hea]; simp⟩
      clear h8
      have hdi : (d : Int) ≤ 50 := by have := HD.out; omega
      have hdi0 : (0 : Int) ≤ (d : Int) := by omega
      have HDE : Aside0 (d + 1 = deepD op d) := ⟨by rw [deepD, HDQ.out]; rfl⟩
      by_cases h50 : d + 1 ≤ 50
      · have h50i : ¬ (50 : Int) < (d : Int) + 1 := by omega
        have H50 := Aside0.mk h50
        clear h50
        go_wp2
        exact HRA.out (d + 1) _ HDE.out H50.out rfl
      · have h50i : (50 : Int) < (d : Int) + 1 := by omega
        have HFLT : Aside0 (FL = true) := ⟨by rw [HFL.out, ← HDE.out, decide_eq_false h50]; rfl⟩
        clear h50
        go_wp2
        refine wp_goto ?_
        exact ⟨rfl, rfl, ⟨_, _, HST3.out.1⟩, HST3.out.2.1, HFLT.out⟩
    | true =>
      have e4 := @isEmpty_list s.ahead
      have e5 := @isEmpty_list2 s.ahead
      rw [hea] at e4 e5
      have e6 : (⟨s.ahead.toArray⟩ : ByteArray).isEmpty = true := by rw [List.isEmpty_iff.1 hea]; rfl
      have HDQ : Aside0 (deepB op = false) := ⟨by rw [HDB.out, hea, decide_eq_false HNE.out.1, decide_eq_false HNE.out.2]; simp⟩
      clear h8
      go_wp2
      exact HRA.out d _ (by rw [deepD, HDQ.out]; rfl) HD.out rfl
  · have e8 : (s.lvl == 8) = false := beq_eq_false_iff_ne.2 h8
    have HDQ : Aside0 (deepB op = false) := ⟨by rw [HDB.out, decide_eq_false h8, decide_eq_false HNE.out.1, decide_eq_false HNE.out.2]; rfl⟩
    clear h8
    go_wp2
    exact HRA.out d _ (by rw [deepD, HDQ.out]; rfl) HD.out rfl
/-- Any expression that can be read is told. -/
theorem expr_any (w0 : World) (b : Nat) (hk : KeysLie w0) (ht : Tabs w0) : ∀ {x : XD}, ReadsXD w0 x → ExprOk w0 b x := by
  intro x hx
  induction hx with
  | @mk op A ks c nm pr v hop hlen hnm hpr hs hkk hn hp hrow hkids ih =>
    have hx : ReadsXD w0 (.mk op A ks c nm pr v) := .mk hop hlen hnm hpr hs hkk hn hp hrow hkids
    intro d T fl w hw hd hd50
    dsimp only [XD.op, XD.A, XD.ks, XD.c, XD.nm, XD.pr, XD.v]
    have hsh := fun W => shape_any op W
    rw [textX_mk, okX_mk]
    cases fl with
    | true => exact x_true w0 b T _ op A ks c nm pr v d w _ hsh hw
    | false =>
      rw [Bool.false_or]
      cases hq : shpD op with
      | none =>
        rw [hq] at hsh
        rw [show okF op A ks c nm pr v (okK ks) d = false from by unfold okF; rw [hq]]
        exact x_none w0 b T _ op A ks c nm pr v d w _ hsh hw rfl
      | some s =>
        rw [hq] at hsh
        have hf := shp_facts hq
        have hpl : ∀ W, Below w.heap.size w W → Calls Tryd.prog 37 #[.agg #[.int .i64 op, .slice A ks.length c, .string nm, .string pr, .int .i64 v.k, .bool v.b, .int .i64 v.n, .string v.s, .slice v.A v.p.length v.c], .int .i64 s.asks.length] W fun e w' => e = .returned (.bool (decide (ks.length = s.asks.length) && plainB op nm pr v)) ∧ Below W.heap.size W w' :=
          fun W hW => plain_any op A ks c nm pr v s.asks.length W (hp.below (below_then hw.base hW)) hnm hpr (hk.below (below_then hw.base hW))
        cases hpb : decide (ks.length = s.asks.length) && plainB op nm pr v with
        | false =>
          rw [hpb] at hpl
          rw [show okF op A ks c nm pr v (okK ks) d = false from by unfold okF; rw [hq]; simp only [hpb, Bool.false_and]]
          exact x_bare w0 b T _ op A ks c nm pr v d w s hsh hw (beq_eq_false_iff_ne.2 hf.1) hf.1 hpl
        | true =>
          rw [hpb] at hpl
          have hpb2 := hpb
          rw [Bool.and_eq_true, decide_eq_true_iff] at hpb2
          refine x_main w0 b T _ _ op A ks c nm pr v d w s hw hsh hq hpb2.1 (hd50 rfl) (beq_eq_false_iff_ne.2 hf.1) hf.1 hpl hpb2.2 hx ht ih ?_ ?_
          · unfold okF; rw [hq]; simp only [hpb, Bool.true_and]
          · unfold textF; rw [hq]
end Go.Proofs.YtkchpgjjkckfbaaDoor
