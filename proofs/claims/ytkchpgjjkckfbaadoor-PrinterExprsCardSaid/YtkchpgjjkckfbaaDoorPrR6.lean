/- The document's expr, way by way. -/
import Derived.Test.YtkchpgjjkckfbaaDoorPrR5
set_option linter.unusedVariables false
set_option linter.unusedSimpArgs false
namespace Go.Proofs.YtkchpgjjkckfbaaDoor
open Go.RowKit

set_option maxRecDepth 100000 in
set_option maxHeartbeats 3200000 in
theorem rx_true (w0 : World) (b : Nat) (T : List UInt8) (A : Option Addr) (c : Nat) (nm pr : ByteArray) (v : VX) (d : Nat) (w : World) (TT : List UInt8) (op : Int) (n : Nat) (fb : Bool) (hr : RS w0 b T d true w) 
    (hfl : ∀ W, Below w.heap.size w W → Calls Tryd.prog 41 #[.agg #[.int .i64 op, .slice A n c, .string nm, .string pr, .int .i64 v.k, .bool v.b, .int .i64 v.n, .string v.s, .slice v.A v.p.length v.c]] W fun e w' => e = .returned (.bool fb) ∧ Below W.heap.size W w') :
    Calls Tryd.prog 16 #[.pointer (some ⟨b, 0, none⟩), .agg #[.int .i64 op, .slice A n c, .string nm, .string pr, .int .i64 v.k, .bool v.b, .int .i64 v.n, .string v.s, .slice v.A v.p.length v.c]] w fun e w' => e = .returned (.tuple #[]) ∧ (RS w0 b (TT) d (true) w' ∧ KeptR b w w') := by
  have HR := Aside0.mk hr
  clear hr
  go_enter Tryd.func16, Tryd.ntmps16
  go_upto_region 2 with (go_at_call 41; refine (hfl _ (by repeat (first | exact Below.refl _ _ | assumption | apply below_more))).mono ?_; rintro e w1 ⟨rfl, hb1⟩)
  have HX1 : Aside0 (BX w1 w.heap.size #[.int .i64 op, .slice A n c, .string nm, .string pr, .int .i64 v.k, .bool v.b, .int .i64 v.n, .string v.s, .slice v.A v.p.length v.c] 29) := ⟨(BX.new w _ _).below hb1⟩
  have HR1 : Aside0 (RS w0 b T d true w1) := ⟨(HR.out.alloc _).below hb1⟩
  have HK1 : Aside0 (KeptR b w w1) := ⟨keptR_below (below_then (below_more (Below.refl _ _) _) hb1)⟩
  have hc := HR1.out.cells.2
  have hf := HR1.out.free 2
  have hbx := HX1.out.cells
  clear hb1 hfl
  go_wp2
  first | go_end0 | refine bodyPost_ret (results_none rfl _ _ _) rfl ?_
  exact ⟨rfl, RS.any (HR1.out.bad true (fun e => by cases e)) _, HK1.out.trans (keptR_set b 2 w1 _)⟩
set_option maxRecDepth 100000 in
set_option maxHeartbeats 3200000 in
theorem rx_bare (w0 : World) (b : Nat) (T : List UInt8) (A : Option Addr) (c : Nat) (nm pr : ByteArray) (v : VX) (d : Nat) (w : World) (TT : List UInt8) (op : Int) (n : Nat) (hr : RS w0 b T d false w) 
    (hfl : ∀ W, Below w.heap.size w W → Calls Tryd.prog 41 #[.agg #[.int .i64 op, .slice A n c, .string nm, .string pr, .int .i64 v.k, .bool v.b, .int .i64 v.n, .string v.s, .slice v.A v.p.length v.c]] W fun e w' => e = .returned (.bool false) ∧ Below W.heap.size W w') :
    Calls Tryd.prog 16 #[.pointer (some ⟨b, 0, none⟩), .agg #[.int .i64 op, .slice A n c, .string nm, .string pr, .int .i64 v.k, .bool v.b, .int .i64 v.n, .string v.s, .slice v.A v.p.length v.c]] w fun e w' => e = .returned (.tuple #[]) ∧ (RS w0 b (TT) d (true) w' ∧ KeptR b w w') := by
  have HR := Aside0.mk hr
  clear hr
  go_enter Tryd.func16, Tryd.ntmps16
  go_upto_region 2 with (go_at_call 41; refine (hfl _ (by repeat (first | exact Below.refl _ _ | assumption | apply below_more))).mono ?_; rintro e w1 ⟨rfl, hb1⟩)
  have HX1 : Aside0 (BX w1 w.heap.size #[.int .i64 op, .slice A n c, .string nm, .string pr, .int .i64 v.k, .bool v.b, .int .i64 v.n, .string v.s, .slice v.A v.p.length v.c] 29) := ⟨(BX.new w _ _).below hb1⟩
  have HR1 : Aside0 (RS w0 b T d false w1) := ⟨(HR.out.alloc _).below hb1⟩
  have HK1 : Aside0 (KeptR b w w1) := ⟨keptR_below (below_then (below_more (Below.refl _ _) _) hb1)⟩
  have hc := HR1.out.cells.2
  have hf := HR1.out.free 2
  have hbx := HX1.out.cells
  clear hb1 hfl
  go_wp2
  first | go_end0 | refine bodyPost_ret (results_none rfl _ _ _) rfl ?_
  exact ⟨rfl, RS.any (HR1.out.bad true (fun e => by cases e)) _, HK1.out.trans (keptR_set b 2 w1 _)⟩
set_option maxRecDepth 100000 in
set_option maxHeartbeats 3200000 in
theorem rx_lit (w0 : World) (b : Nat) (T : List UInt8) (A : Option Addr) (c : Nat) (nm pr : ByteArray) (v : VX) (d : Nat) (w : World) (hr : RS w0 b T d false w) 
    (hfl : ∀ W, Below w.heap.size w W → Calls Tryd.prog 41 #[.agg #[.int .i64 1, .slice A 0 c, .string nm, .string pr, .int .i64 v.k, .bool v.b, .int .i64 v.n, .string v.s, .slice v.A v.p.length v.c]] W fun e w' => e = .returned (.bool true) ∧ Below W.heap.size W w') (hp : ReadsI w0 v.A v.p) (hn : -9223372036854775808 ≤ v.n ∧ v.n ≤ 9223372036854775807) (hs : v.s.size ≤ 140737488351232) (ht : Tabs w0) (hT : Lib.Utf8Tabs 1 2 w0) (hrr : rightB v.k v.b v.n v.s v.p = true) (h3 : v.k ≤ 3) :
    Calls Tryd.prog 16 #[.pointer (some ⟨b, 0, none⟩), .agg #[.int .i64 1, .slice A 0 c, .string nm, .string pr, .int .i64 v.k, .bool v.b, .int .i64 v.n, .string v.s, .slice v.A v.p.length v.c]] w fun e w' => e = .returned (.tuple #[]) ∧ (RS w0 b (T ++ litL v) d (false) w' ∧ KeptR b w w') := by
  have HR := Aside0.mk hr
  clear hr
  have hlit := fun (W : World) (h : RS w0 b T d false W) => h.lit v hp hn hs ht hT hrr h3
  clear hp hn hs ht hT hrr h3
  go_enter Tryd.func16, Tryd.ntmps16
  go_upto_region 2 with (go_at_call 41; refine (hfl _ (by repeat (first | exact Below.refl _ _ | assumption | apply below_more))).mono ?_; rintro e w1 ⟨rfl, hb1⟩)
  have HX1 : Aside0 (BX w1 w.heap.size #[.int .i64 1, .slice A 0 c, .string nm, .string pr, .int .i64 v.k, .bool v.b, .int .i64 v.n, .string v.s, .slice v.A v.p.length v.c] 29) := ⟨(BX.new w _ _).below hb1⟩
  have HR1 : Aside0 (RS w0 b T d false w1) := ⟨(HR.out.alloc _).below hb1⟩
  have HK1 : Aside0 (KeptR b w w1) := ⟨keptR_below (below_then (below_more (Below.refl _ _) _) hb1)⟩
  have hc := HR1.out.cells.2
  have hf := HR1.out.free 2
  have hbx := HX1.out.cells
  clear hb1 hfl
  have hl1 := hlit w1 HR1.out
  clear hlit
  go_wp2_with (go_at_call 42; refine hl1.mono ?_; rintro e w2 ⟨rfl, h2, k2⟩)
  first | go_end0 | refine bodyPost_ret (results_none rfl _ _ _) rfl ?_
  exact ⟨rfl, h2, HK1.out.trans k2⟩
set_option maxRecDepth 100000 in
set_option maxHeartbeats 3200000 in
theorem rx_var (w0 : World) (b : Nat) (T : List UInt8) (A : Option Addr) (c : Nat) (nm pr : ByteArray) (v : VX) (d : Nat) (w : World) (hr : RS w0 b T d false w) 
    (hfl : ∀ W, Below w.heap.size w W → Calls Tryd.prog 41 #[.agg #[.int .i64 2, .slice A 0 c, .string nm, .string pr, .int .i64 v.k, .bool v.b, .int .i64 v.n, .string v.s, .slice v.A v.p.length v.c]] W fun e w' => e = .returned (.bool true) ∧ Below W.heap.size W w') (hnm : nm.size ≤ 140737488351232) (hT : Lib.Utf8Tabs 1 2 w0) :
    Calls Tryd.prog 16 #[.pointer (some ⟨b, 0, none⟩), .agg #[.int .i64 2, .slice A 0 c, .string nm, .string pr, .int .i64 v.k, .bool v.b, .int .i64 v.n, .string v.s, .slice v.A v.p.length v.c]] w fun e w' => e = .returned (.tuple #[]) ∧ (RS w0 b (T ++ nm.data.toList) d (!namedB nm) w' ∧ KeptR b w w') := by
  have HR := Aside0.mk hr
  clear hr
  have hnn := fun (W : World) (h : RS w0 b T d false W) => h.names nm hnm hT
  clear hnm hT
  go_enter Tryd.func16, Tryd.ntmps16
  go_upto_region 2 with (go_at_call 41; refine (hfl _ (by repeat (first | exact Below.refl _ _ | assumption | apply below_more))).mono ?_; rintro e w1 ⟨rfl, hb1⟩)
  have HX1 : Aside0 (BX w1 w.heap.size #[.int .i64 2, .slice A 0 c, .string nm, .string pr, .int .i64 v.k, .bool v.b, .int .i64 v.n, .string v.s, .slice v.A v.p.length v.c] 29) := ⟨(BX.new w _ _).below hb1⟩
  have HR1 : Aside0 (RS w0 b T d false w1) := ⟨(HR.out.alloc _).below hb1⟩
  have HK1 : Aside0 (KeptR b w w1) := ⟨keptR_below (below_then (below_more (Below.refl _ _) _) hb1)⟩
  have hc := HR1.out.cells.2
  have hf := HR1.out.free 2
  have hbx := HX1.out.cells
  clear hb1 hfl
  have hl1 := hnn w1 HR1.out
  clear hnn
  go_wp2_with (go_at_call 32; refine hl1.mono ?_; rintro e w2 ⟨rfl, h2, k2⟩)
  first | go_end0 | refine bodyPost_ret (results_none rfl _ _ _) rfl ?_
  exact ⟨rfl, by simpa using h2, HK1.out.trans k2⟩
set_option maxRecDepth 100000 in
set_option maxHeartbeats 3200000 in
theorem rx_prop (w0 : World) (b : Nat) (T : List UInt8) (A : Option Addr) (c : Nat) (nm pr : ByteArray) (v : VX) (d : Nat) (w : World) (hr : RS w0 b T d false w) 
    (hfl : ∀ W, Below w.heap.size w W → Calls Tryd.prog 41 #[.agg #[.int .i64 3, .slice A 0 c, .string nm, .string pr, .int .i64 v.k, .bool v.b, .int .i64 v.n, .string v.s, .slice v.A v.p.length v.c]] W fun e w' => e = .returned (.bool true) ∧ Below W.heap.size W w') (hnm : nm.size ≤ 140737488351232) (hpr : pr.size ≤ 140737488351232) (hT : Lib.Utf8Tabs 1 2 w0) :
    Calls Tryd.prog 16 #[.pointer (some ⟨b, 0, none⟩), .agg #[.int .i64 3, .slice A 0 c, .string nm, .string pr, .int .i64 v.k, .bool v.b, .int .i64 v.n, .string v.s, .slice v.A v.p.length v.c]] w fun e w' => e = .returned (.tuple #[]) ∧ (RS w0 b (T ++ (nm.data.toList ++ (46 :: pr.data.toList))) d (!namedB nm || !namedB pr) w' ∧ KeptR b w w') := by
  have HR := Aside0.mk hr
  clear hr
  have HT := Aside0.mk hT
  have HN := Aside0.mk (And.intro hnm hpr)
  clear hnm hpr hT
  go_enter Tryd.func16, Tryd.ntmps16
  go_upto_region 2 with (go_at_call 41; refine (hfl _ (by repeat (first | exact Below.refl _ _ | assumption | apply below_more))).mono ?_; rintro e w1 ⟨rfl, hb1⟩)
  have HX1 : Aside0 (BX w1 w.heap.size #[.int .i64 3, .slice A 0 c, .string nm, .string pr, .int .i64 v.k, .bool v.b, .int .i64 v.n, .string v.s, .slice v.A v.p.length v.c] 29) := ⟨(BX.new w _ _).below hb1⟩
  have HR1 : Aside0 (RS w0 b T d false w1) := ⟨(HR.out.alloc _).below hb1⟩
  have HK1 : Aside0 (KeptR b w w1) := ⟨keptR_below (below_then (below_more (Below.refl _ _) _) hb1)⟩
  have hc := HR1.out.cells.2
  have hf := HR1.out.free 2
  have hbx := HX1.out.cells
  clear hb1 hfl
  have hl1 := HR1.out.names nm HN.out.1 HT.out
  go_upto_region 11 with (go_at_call 32; refine hl1.mono ?_; rintro e w2 ⟨rfl, h2, k2⟩)
  have HX2 : Aside0 (BX w2 w.heap.size #[.int .i64 3, .slice A 0 c, .string nm, .string pr, .int .i64 v.k, .bool v.b, .int .i64 v.n, .string v.s, .slice v.A v.p.length v.c] 29) := ⟨HX1.out.keepR HR1.out k2 (by decide) (by decide)⟩
  have HK2 : Aside0 (KeptR b w w2) := ⟨HK1.out.trans k2⟩
  have HR2 := Aside0.mk h2
  clear h2 k2
  have hbx := HX2.out.cells
  have hl2 := HR2.out.say ⟨#[46]⟩ (by decide)
  go_upto_region 12 with (go_at_call 30; refine hl2.mono ?_; rintro e w3 ⟨rfl, h3, k3⟩)
  have HX3 : Aside0 (BX w3 w.heap.size #[.int .i64 3, .slice A 0 c, .string nm, .string pr, .int .i64 v.k, .bool v.b, .int .i64 v.n, .string v.s, .slice v.A v.p.length v.c] 29) := ⟨HX2.out.keepR HR2.out k3 (by decide) (by decide)⟩
  have HK3 : Aside0 (KeptR b w w3) := ⟨HK2.out.trans k3⟩
  have HR3 := Aside0.mk h3
  clear h3 k3
  have hbx := HX3.out.cells
  have hl3 := HR3.out.names pr HN.out.2 HT.out
  go_wp2_with (go_at_call 32; refine hl3.mono ?_; rintro e w4 ⟨rfl, h4, k4⟩)
  first | go_end0 | refine bodyPost_ret (results_none rfl _ _ _) rfl ?_
  refine ⟨rfl, ?_, HK3.out.trans k4⟩
  simpa [List.append_assoc] using h4
set_option maxRecDepth 100000 in
set_option maxHeartbeats 3200000 in
theorem rx_two (w0 : World) (b : Nat) (T : List UInt8) (A : Option Addr) (c : Nat) (nm pr : ByteArray) (v : VX) (d : Nat) (w : World) (op : Int) (k0 k1 : XD) (a0 a1 : Int) (sg : List UInt8) (hr : RS w0 b T d false w) 
    (hfl : ∀ W, Below w.heap.size w W → Calls Tryd.prog 41 #[.agg #[.int .i64 op, .slice A 2 c, .string nm, .string pr, .int .i64 v.k, .bool v.b, .int .i64 v.n, .string v.s, .slice v.A v.p.length v.c]] W fun e w' => e = .returned (.bool true) ∧ Below W.heap.size W w') (hd : d ≤ 50) (h4 : 4 ≤ op) (h16 : op ≤ 16) (hask0 : ∀ W, Calls Tryd.prog 66 #[.int .i64 op, .int .i64 0] W fun e w' => e = .returned (.int .i64 a0) ∧ W = w') (ha0 : a0 ≤ 8) (hask1 : ∀ W, Calls Tryd.prog 66 #[.int .i64 op, .int .i64 1] W fun e w' => e = .returned (.int .i64 a1) ∧ W = w') (ha1 : a1 ≤ 8) 
    (hsg : ∀ W, Calls Tryd.prog 44 #[.int .i64 op] W fun e w' => e = .returned (.string ⟨sg.toArray⟩) ∧ Below W.heap.size W w') (hsl : sg.length ≤ 10) (hx : ReadsXD w0 (.mk op A [k0, k1] c nm pr v)) (hk : ∀ k, k ∈ [k0, k1] → RefOk w0 b k) :
    Calls Tryd.prog 16 #[.pointer (some ⟨b, 0, none⟩), .agg #[.int .i64 op, .slice A 2 c, .string nm, .string pr, .int .i64 v.k, .bool v.b, .int .i64 v.n, .string v.s, .slice v.A v.p.length v.c]] w fun e w' => e = .returned (.tuple #[]) ∧ (RS w0 b (T ++ (kidT a0 k0 ++ ((32 :: (sg ++ [32])) ++ kidT a1 k1))) d (!kidB a0 k0 d || !kidB a1 k1 d) w' ∧ KeptR b w w') := by
  have HR := Aside0.mk hr
  clear hr
  have HKID := Aside0.mk (fun (W : World) (T : List UInt8) (fl : Bool) (h : RS w0 b T d fl W) (hf : fl = false → d ≤ 50) => kid_any w0 b T op A [k0, k1] c nm pr v d 0 a0 fl W h (by omega) hf hask0 ha0 hx (by simp) hk)
  have HKI1 := Aside0.mk (fun (W : World) (T : List UInt8) (fl : Bool) (h : RS w0 b T d fl W) (hf : fl = false → d ≤ 50) => kid_any w0 b T op A [k0, k1] c nm pr v d 1 a1 fl W h (by omega) hf hask1 ha1 hx (by simp) hk)
  have HD := Aside0.mk hd
  have e1 : (op == 1) = false := beq_eq_false_iff_ne.2 (by omega)
  have e2 : (op == 2) = false := beq_eq_false_iff_ne.2 (by omega)
  have e3 : (op == 3) = false := beq_eq_false_iff_ne.2 (by omega)
  have g1 : ¬ 1 = op := by omega
  have g2 : ¬ 2 = op := by omega
  have g3 : ¬ 3 = op := by omega
  clear hask0 hask1 ha0 ha1 hx hk h4 hd
  have HSG := Aside0.mk hsg
  have HSL := Aside0.mk hsl
  clear hsg hsl
  go_enter Tryd.func16, Tryd.ntmps16
  go_upto_region 2 with (go_at_call 41; refine (hfl _ (by repeat (first | exact Below.refl _ _ | assumption | apply below_more))).mono ?_; rintro e w1 ⟨rfl, hb1⟩)
  have HX1 : Aside0 (BX w1 w.heap.size #[.int .i64 op, .slice A 2 c, .string nm, .string pr, .int .i64 v.k, .bool v.b, .int .i64 v.n, .string v.s, .slice v.A v.p.length v.c] 29) := ⟨(BX.new w _ _).below hb1⟩
  have HR1 : Aside0 (RS w0 b T d false w1) := ⟨(HR.out.alloc _).below hb1⟩
  have HK1 : Aside0 (KeptR b w w1) := ⟨keptR_below (below_then (below_more (Below.refl _ _) _) hb1)⟩
  have hc := HR1.out.cells.2
  have hf := HR1.out.free 2
  have hbx := HX1.out.cells
  clear hb1 hfl
  have hl1 := HKID.out w1 T false HR1.out (fun _ => HD.out)
  go_upto_region 15 with (go_at_call 43; refine hl1.mono ?_; rintro e w2 ⟨rfl, h2, k2⟩)
  have HX2 : Aside0 (BX w2 w.heap.size #[.int .i64 op, .slice A 2 c, .string nm, .string pr, .int .i64 v.k, .bool v.b, .int .i64 v.n, .string v.s, .slice v.A v.p.length v.c] 29) := ⟨HX1.out.keepR HR1.out k2 (by decide) (by decide)⟩
  have HK2 : Aside0 (KeptR b w w2) := ⟨HK1.out.trans k2⟩
  have HR2 := Aside0.mk h2
  clear h2 k2
  have hbx := HX2.out.cells
  have hsl1 : (⟨#[32]⟩ : ByteArray).size + (⟨sg.toArray⟩ : ByteArray).size ≤ 9223372036854775807 := by have := HSL.out; simp [ByteArray.size]; omega
  have hsl2 : (⟨#[32]⟩ ++ ⟨sg.toArray⟩ : ByteArray).size + (⟨#[32]⟩ : ByteArray).size ≤ 9223372036854775807 := by have := HSL.out; simp [ByteArray.size_append, ByteArray.size]; omega
  have hsg2 := HSG.out w2
  clear hl1
  go_upto_region 16 with (first | (go_at_call 44; refine hsg2.mono ?_; rintro e w3 ⟨rfl, hb3⟩) | (go_at_call 30; refine ((HR2.out.below hb3).say _ (by have := HSL.out; simp [ByteArray.size_append, ByteArray.size]; omega)).mono ?_; rintro e w4 ⟨rfl, h4, k4⟩))
  have HX4 : Aside0 (BX w4 w.heap.size #[.int .i64 op, .slice A 2 c, .string nm, .string pr, .int .i64 v.k, .bool v.b, .int .i64 v.n, .string v.s, .slice v.A v.p.length v.c] 29) := ⟨(HX2.out.below hb3).keepR (HR2.out.below hb3) k4 (by decide) (by decide)⟩
  have HK4 : Aside0 (KeptR b w w4) := ⟨(HK2.out.trans (keptR_below hb3)).trans k4⟩
  have hbx := HX4.out.cells
  have hl2 := HKI1.out w4 _ _ h4 (fun _ => HD.out)
  clear hb3 k4 hsg2 hsl1 hsl2 h4
  go_wp2_with (go_at_call 43; refine hl2.mono ?_; rintro e w5 ⟨rfl, h5, k5⟩)
  first | go_end0 | refine bodyPost_ret (results_none rfl _ _ _) rfl ?_
  refine ⟨rfl, ?_, HK4.out.trans k5⟩
  have e0 : ([k0, k1].getD 0 XD.zero) = k0 := rfl
  have e9 : ([k0, k1].getD 1 XD.zero) = k1 := rfl
  rw [e0, e9] at h5
  simpa [List.append_assoc] using h5
set_option maxRecDepth 100000 in
set_option maxHeartbeats 3200000 in
theorem rx_17 (w0 : World) (b : Nat) (T : List UInt8) (A : Option Addr) (c : Nat) (nm pr : ByteArray) (v : VX) (d : Nat) (w : World) (k0 : XD) (hr : RS w0 b T d false w) 
    (hfl : ∀ W, Below w.heap.size w W → Calls Tryd.prog 41 #[.agg #[.int .i64 17, .slice A 1 c, .string nm, .string pr, .int .i64 v.k, .bool v.b, .int .i64 v.n, .string v.s, .slice v.A v.p.length v.c]] W fun e w' => e = .returned (.bool true) ∧ Below W.heap.size W w') (hd : d ≤ 50) (hx : ReadsXD w0 (.mk 17 A [k0] c nm pr v)) (hk : ∀ k, k ∈ [k0] → RefOk w0 b k) :
    Calls Tryd.prog 16 #[.pointer (some ⟨b, 0, none⟩), .agg #[.int .i64 17, .slice A 1 c, .string nm, .string pr, .int .i64 v.k, .bool v.b, .int .i64 v.n, .string v.s, .slice v.A v.p.length v.c]] w fun e w' => e = .returned (.tuple #[]) ∧ (RS w0 b (T ++ ([78, 79, 84, 32] ++ kidT 3 k0)) d (decide (50 < d + 1) || !kidB 3 k0 (d + 1)) w' ∧ KeptR b w w') := by
  have HR := Aside0.mk hr
  clear hr
  have HKID := Aside0.mk (fun (W : World) (T : List UInt8) (dd : Nat) (fl : Bool) (h : RS w0 b T dd fl W) (h60 : dd ≤ 60) (hf : fl = false → dd ≤ 50) => kid_any w0 b T 17 A [k0] c nm pr v dd 0 3 fl W h h60 hf (fun W => asks_17_0 W) (by decide) hx (by simp) hk)
  have HD := Aside0.mk hd
  clear hx hk hd
  go_enter Tryd.func16, Tryd.ntmps16
  go_upto_region 2 with (go_at_call 41; refine (hfl _ (by repeat (first | exact Below.refl _ _ | assumption | apply below_more))).mono ?_; rintro e w1 ⟨rfl, hb1⟩)
  have HX1 : Aside0 (BX w1 w.heap.size #[.int .i64 17, .slice A 1 c, .string nm, .string pr, .int .i64 v.k, .bool v.b, .int .i64 v.n, .string v.s, .slice v.A v.p.length v.c] 29) := ⟨(BX.new w _ _).below hb1⟩
  have HR1 : Aside0 (RS w0 b T d false w1) := ⟨(HR.out.alloc _).below hb1⟩
  have HK1 : Aside0 (KeptR b w w1) := ⟨keptR_below (below_then (below_more (Below.refl _ _) _) hb1)⟩
  have hc := HR1.out.cells.2
  have hf := HR1.out.free 2
  have hbx := HX1.out.cells
  clear hb1 hfl
  have hl1 := HR1.out.down (by have := HD.out; omega)
  go_upto_region 19 with (go_at_call 45; refine hl1.mono ?_; rintro e w2 ⟨rfl, h2, k2⟩)
  have HX2 : Aside0 (BX w2 w.heap.size #[.int .i64 17, .slice A 1 c, .string nm, .string pr, .int .i64 v.k, .bool v.b, .int .i64 v.n, .string v.s, .slice v.A v.p.length v.c] 29) := ⟨HX1.out.keepR HR1.out k2 (by decide) (by decide)⟩
  have HK2 : Aside0 (KeptR b w w2) := ⟨HK1.out.trans k2⟩
  have HR2 := Aside0.mk h2
  clear h2 k2
  have hbx := HX2.out.cells
  have hl2 := HR2.out.say ⟨#[78, 79, 84, 32]⟩ (by decide)
  go_upto_region 22 with (go_at_call 30; refine hl2.mono ?_; rintro e w3 ⟨rfl, h3, k3⟩)
  have HX3 : Aside0 (BX w3 w.heap.size #[.int .i64 17, .slice A 1 c, .string nm, .string pr, .int .i64 v.k, .bool v.b, .int .i64 v.n, .string v.s, .slice v.A v.p.length v.c] 29) := ⟨HX2.out.keepR HR2.out k3 (by decide) (by decide)⟩
  have HK3 : Aside0 (KeptR b w w3) := ⟨HK2.out.trans k3⟩
  have HR3 := Aside0.mk h3
  clear h3 k3
  have hbx := HX3.out.cells
  have h3b : RS w0 b (T ++ [78, 79, 84, 32]) ((d + 1 : Nat) : Int) (decide (50 < d + 1)) w3 := by simpa using HR3.out
  have hl3 := HKID.out w3 _ (d + 1) _ h3b (by have := HD.out; omega) (fun e => by have := of_decide_eq_false e; omega)
  clear h3b hl1 hl2
  go_upto_region 23 with (go_at_call 43; refine hl3.mono ?_; rintro e w4 ⟨rfl, h4, k4⟩)
  have HZ := Aside0.mk h4
  have hc := HZ.out.cells.1
  have hf := HZ.out.free 1
  have hd1 : ((d + 1 : Nat) : Int) = (d : Int) + 1 := by omega
  rw [hd1] at hc
  have hdi : (d : Int) ≤ 60 := by have := HD.out; omega
  have hdi0 : (0 : Int) ≤ (d : Int) := by omega
  clear hd1 h4 hl3 hbx
  go_wp2
  first | go_end0 | refine bodyPost_ret (results_none rfl _ _ _) rfl ?_
  refine ⟨rfl, ?_, (HK3.out.trans k4).trans (keptR_set b 1 w4 _)⟩
  have := HZ.out.deep (d : Int)
  have e0 : ([k0].getD 0 XD.zero) = k0 := rfl
  rw [e0] at this
  simpa [List.append_assoc] using this
set_option maxRecDepth 100000 in
set_option maxHeartbeats 3200000 in
theorem rx_18 (w0 : World) (b : Nat) (T : List UInt8) (A : Option Addr) (c : Nat) (nm pr : ByteArray) (v : VX) (d : Nat) (w : World) (k0 : XD) (hr : RS w0 b T d false w) 
    (hfl : ∀ W, Below w.heap.size w W → Calls Tryd.prog 41 #[.agg #[.int .i64 18, .slice A 1 c, .string nm, .string pr, .int .i64 v.k, .bool v.b, .int .i64 v.n, .string v.s, .slice v.A v.p.length v.c]] W fun e w' => e = .returned (.bool true) ∧ Below W.heap.size W w') (hd : d ≤ 50) (hx : ReadsXD w0 (.mk 18 A [k0] c nm pr v)) (hk : ∀ k, k ∈ [k0] → RefOk w0 b k) :
    Calls Tryd.prog 16 #[.pointer (some ⟨b, 0, none⟩), .agg #[.int .i64 18, .slice A 1 c, .string nm, .string pr, .int .i64 v.k, .bool v.b, .int .i64 v.n, .string v.s, .slice v.A v.p.length v.c]] w fun e w' => e = .returned (.tuple #[]) ∧ (RS w0 b (T ++ ([45] ++ kidT 7 k0)) d (decide (50 < d + 1) || !kidB 7 k0 (d + 1)) w' ∧ KeptR b w w') := by
  have HR := Aside0.mk hr
  clear hr
  have HKID := Aside0.mk (fun (W : World) (T : List UInt8) (dd : Nat) (fl : Bool) (h : RS w0 b T dd fl W) (h60 : dd ≤ 60) (hf : fl = false → dd ≤ 50) => kid_any w0 b T 18 A [k0] c nm pr v dd 0 7 fl W h h60 hf (fun W => asks_18_0 W) (by decide) hx (by simp) hk)
  have HD := Aside0.mk hd
  clear hx hk hd
  go_enter Tryd.func16, Tryd.ntmps16
  go_upto_region 2 with (go_at_call 41; refine (hfl _ (by repeat (first | exact Below.refl _ _ | assumption | apply below_more))).mono ?_; rintro e w1 ⟨rfl, hb1⟩)
  have HX1 : Aside0 (BX w1 w.heap.size #[.int .i64 18, .slice A 1 c, .string nm, .string pr, .int .i64 v.k, .bool v.b, .int .i64 v.n, .string v.s, .slice v.A v.p.length v.c] 29) := ⟨(BX.new w _ _).below hb1⟩
  have HR1 : Aside0 (RS w0 b T d false w1) := ⟨(HR.out.alloc _).below hb1⟩
  have HK1 : Aside0 (KeptR b w w1) := ⟨keptR_below (below_then (below_more (Below.refl _ _) _) hb1)⟩
  have hc := HR1.out.cells.2
  have hf := HR1.out.free 2
  have hbx := HX1.out.cells
  clear hb1 hfl
  have hl1 := HR1.out.down (by have := HD.out; omega)
  go_upto_region 19 with (go_at_call 45; refine hl1.mono ?_; rintro e w2 ⟨rfl, h2, k2⟩)
  have HX2 : Aside0 (BX w2 w.heap.size #[.int .i64 18, .slice A 1 c, .string nm, .string pr, .int .i64 v.k, .bool v.b, .int .i64 v.n, .string v.s, .slice v.A v.p.length v.c] 29) := ⟨HX1.out.keepR HR1.out k2 (by decide) (by decide)⟩
  have HK2 : Aside0 (KeptR b w w2) := ⟨HK1.out.trans k2⟩
  have HR2 := Aside0.mk h2
  clear h2 k2
  have hbx := HX2.out.cells
  have hl2 := HR2.out.say ⟨#[45]⟩ (by decide)
  go_upto_region 22 with (go_at_call 30; refine hl2.mono ?_; rintro e w3 ⟨rfl, h3, k3⟩)
  have HX3 : Aside0 (BX w3 w.heap.size #[.int .i64 18, .slice A 1 c, .string nm, .string pr, .int .i64 v.k, .bool v.b, .int .i64 v.n, .string v.s, .slice v.A v.p.length v.c] 29) := ⟨HX2.out.keepR HR2.out k3 (by decide) (by decide)⟩
  have HK3 : Aside0 (KeptR b w w3) := ⟨HK2.out.trans k3⟩
  have HR3 := Aside0.mk h3
  clear h3 k3
  have hbx := HX3.out.cells
  have h3b : RS w0 b (T ++ [45]) ((d + 1 : Nat) : Int) (decide (50 < d + 1)) w3 := by simpa using HR3.out
  have hl3 := HKID.out w3 _ (d + 1) _ h3b (by have := HD.out; omega) (fun e => by have := of_decide_eq_false e; omega)
  clear h3b hl1 hl2
  go_upto_region 23 with (go_at_call 43; refine hl3.mono ?_; rintro e w4 ⟨rfl, h4, k4⟩)
  have HZ := Aside0.mk h4
  have hc := HZ.out.cells.1
  have hf := HZ.out.free 1
  have hd1 : ((d + 1 : Nat) : Int) = (d : Int) + 1 := by omega
  rw [hd1] at hc
  have hdi : (d : Int) ≤ 60 := by have := HD.out; omega
  have hdi0 : (0 : Int) ≤ (d : Int) := by omega
  clear hd1 h4 hl3 hbx
  go_wp2
  first | go_end0 | refine bodyPost_ret (results_none rfl _ _ _) rfl ?_
  refine ⟨rfl, ?_, (HK3.out.trans k4).trans (keptR_set b 1 w4 _)⟩
  have := HZ.out.deep (d : Int)
  have e0 : ([k0].getD 0 XD.zero) = k0 := rfl
  rw [e0] at this
  simpa [List.append_assoc] using this
set_option maxRecDepth 100000 in
set_option maxHeartbeats 3200000 in
theorem rx_19 (w0 : World) (b : Nat) (T : List UInt8) (A : Option Addr) (c : Nat) (nm pr : ByteArray) (v : VX) (d : Nat) (w : World) (k0 : XD) (hr : RS w0 b T d false w) 
    (hfl : ∀ W, Below w.heap.size w W → Calls Tryd.prog 41 #[.agg #[.int .i64 19, .slice A 1 c, .string nm, .string pr, .int .i64 v.k, .bool v.b, .int .i64 v.n, .string v.s, .slice v.A v.p.length v.c]] W fun e w' => e = .returned (.bool true) ∧ Below W.heap.size W w') (hd : d ≤ 50) (hx : ReadsXD w0 (.mk 19 A [k0] c nm pr v)) (hk : ∀ k, k ∈ [k0] → RefOk w0 b k) :
    Calls Tryd.prog 16 #[.pointer (some ⟨b, 0, none⟩), .agg #[.int .i64 19, .slice A 1 c, .string nm, .string pr, .int .i64 v.k, .bool v.b, .int .i64 v.n, .string v.s, .slice v.A v.p.length v.c]] w fun e w' => e = .returned (.tuple #[]) ∧ (RS w0 b (T ++ (kidT 5 k0 ++ [32, 73, 83, 32, 78, 85, 76, 76])) d (!kidB 5 k0 d) w' ∧ KeptR b w w') := by
  have HR := Aside0.mk hr
  clear hr
  have HKID := Aside0.mk (fun (W : World) (T : List UInt8) (dd : Nat) (fl : Bool) (h : RS w0 b T dd fl W) (h60 : dd ≤ 60) (hf : fl = false → dd ≤ 50) => kid_any w0 b T 19 A [k0] c nm pr v dd 0 5 fl W h h60 hf (fun W => asks_19_0 W) (by decide) hx (by simp) hk)
  have HD := Aside0.mk hd
  clear hx hk hd
  go_enter Tryd.func16, Tryd.ntmps16
  go_upto_region 2 with (go_at_call 41; refine (hfl _ (by repeat (first | exact Below.refl _ _ | assumption | apply below_more))).mono ?_; rintro e w1 ⟨rfl, hb1⟩)
  have HX1 : Aside0 (BX w1 w.heap.size #[.int .i64 19, .slice A 1 c, .string nm, .string pr, .int .i64 v.k, .bool v.b, .int .i64 v.n, .string v.s, .slice v.A v.p.length v.c] 29) := ⟨(BX.new w _ _).below hb1⟩
  have HR1 : Aside0 (RS w0 b T d false w1) := ⟨(HR.out.alloc _).below hb1⟩
  have HK1 : Aside0 (KeptR b w w1) := ⟨keptR_below (below_then (below_more (Below.refl _ _) _) hb1)⟩
  have hc := HR1.out.cells.2
  have hf := HR1.out.free 2
  have hbx := HX1.out.cells
  clear hb1 hfl
  have hl1 := HKID.out w1 T d false HR1.out (by have := HD.out; omega) (fun _ => HD.out)
  go_upto_region 26 with (go_at_call 43; refine hl1.mono ?_; rintro e w2 ⟨rfl, h2, k2⟩)
  have HX2 : Aside0 (BX w2 w.heap.size #[.int .i64 19, .slice A 1 c, .string nm, .string pr, .int .i64 v.k, .bool v.b, .int .i64 v.n, .string v.s, .slice v.A v.p.length v.c] 29) := ⟨HX1.out.keepR HR1.out k2 (by decide) (by decide)⟩
  have HK2 : Aside0 (KeptR b w w2) := ⟨HK1.out.trans k2⟩
  have HR2 := Aside0.mk h2
  clear h2 k2
  have hbx := HX2.out.cells
  have hl2 := HR2.out.say ⟨#[32, 73, 83, 32, 78, 85, 76, 76]⟩ (by decide)
  clear hl1
  go_wp2_with (go_at_call 30; refine hl2.mono ?_; rintro e w3 ⟨rfl, h3, k3⟩)
  first | go_end0 | refine bodyPost_ret (results_none rfl _ _ _) rfl ?_
  refine ⟨rfl, ?_, HK2.out.trans k3⟩
  have e0 : ([k0].getD 0 XD.zero) = k0 := rfl
  rw [e0] at h3
  simpa [List.append_assoc] using h3
set_option maxRecDepth 100000 in
set_option maxHeartbeats 3200000 in
theorem rx_20 (w0 : World) (b : Nat) (T : List UInt8) (A : Option Addr) (c : Nat) (nm pr : ByteArray) (v : VX) (d : Nat) (w : World) (k0 : XD) (hr : RS w0 b T d false w) 
    (hfl : ∀ W, Below w.heap.size w W → Calls Tryd.prog 41 #[.agg #[.int .i64 20, .slice A 1 c, .string nm, .string pr, .int .i64 v.k, .bool v.b, .int .i64 v.n, .string v.s, .slice v.A v.p.length v.c]] W fun e w' => e = .returned (.bool true) ∧ Below W.heap.size W w') (hd : d ≤ 50) (hx : ReadsXD w0 (.mk 20 A [k0] c nm pr v)) (hk : ∀ k, k ∈ [k0] → RefOk w0 b k) :
    Calls Tryd.prog 16 #[.pointer (some ⟨b, 0, none⟩), .agg #[.int .i64 20, .slice A 1 c, .string nm, .string pr, .int .i64 v.k, .bool v.b, .int .i64 v.n, .string v.s, .slice v.A v.p.length v.c]] w fun e w' => e = .returned (.tuple #[]) ∧ (RS w0 b (T ++ (kidT 5 k0 ++ [32, 73, 83, 32, 78, 79, 84, 32, 78, 85, 76, 76])) d (!kidB 5 k0 d) w' ∧ KeptR b w w') := by
  have HR := Aside0.mk hr
  clear hr
  have HKID := Aside0.mk (fun (W : World) (T : List UInt8) (dd : Nat) (fl : Bool) (h : RS w0 b T dd fl W) (h60 : dd ≤ 60) (hf : fl = false → dd ≤ 50) => kid_any w0 b T 20 A [k0] c nm pr v dd 0 5 fl W h h60 hf (fun W => asks_20_0 W) (by decide) hx (by simp) hk)
  have HD := Aside0.mk hd
  clear hx hk hd
  go_enter Tryd.func16, Tryd.ntmps16
  go_upto_region 2 with (go_at_call 41; refine (hfl _ (by repeat (first | exact Below.refl _ _ | assumption | apply below_more))).mono ?_; rintro e w1 ⟨rfl, hb1⟩)
  have HX1 : Aside0 (BX w1 w.heap.size #[.int .i64 20, .slice A 1 c, .string nm, .string pr, .int .i64 v.k, .bool v.b, .int .i64 v.n, .string v.s, .slice v.A v.p.length v.c] 29) := ⟨(BX.new w _ _).below hb1⟩
  have HR1 : Aside0 (RS w0 b T d false w1) := ⟨(HR.out.alloc _).below hb1⟩
  have HK1 : Aside0 (KeptR b w w1) := ⟨keptR_below (below_then (below_more (Below.refl _ _) _) hb1)⟩
  have hc := HR1.out.cells.2
  have hf := HR1.out.free 2
  have hbx := HX1.out.cells
  clear hb1 hfl
  have hl1 := HKID.out w1 T d false HR1.out (by have := HD.out; omega) (fun _ => HD.out)
  go_upto_region 29 with (go_at_call 43; refine hl1.mono ?_; rintro e w2 ⟨rfl, h2, k2⟩)
  have HX2 : Aside0 (BX w2 w.heap.size #[.int .i64 20, .slice A 1 c, .string nm, .string pr, .int .i64 v.k, .bool v.b, .int .i64 v.n, .string v.s, .slice v.A v.p.length v.c] 29) := ⟨HX1.out.keepR HR1.out k2 (by decide) (by decide)⟩
  have HK2 : Aside0 (KeptR b w w2) := ⟨HK1.out.trans k2⟩
  have HR2 := Aside0.mk h2
  clear h2 k2
  have hbx := HX2.out.cells
  have hl2 := HR2.out.say ⟨#[32, 73, 83, 32, 78, 79, 84, 32, 78, 85, 76, 76]⟩ (by decide)
  clear hl1
  go_wp2_with (go_at_call 30; refine hl2.mono ?_; rintro e w3 ⟨rfl, h3, k3⟩)
  first | go_end0 | refine bodyPost_ret (results_none rfl _ _ _) rfl ?_
  refine ⟨rfl, ?_, HK2.out.trans k3⟩
  have e0 : ([k0].getD 0 XD.zero) = k0 := rfl
  rw [e0] at h3
  simpa [List.append_assoc] using h3
set_option maxRecDepth 100000 in
set_option maxHeartbeats 3200000 in
theorem rx_21 (w0 : World) (b : Nat) (T : List UInt8) (A : Option Addr) (c : Nat) (nm pr : ByteArray) (v : VX) (d : Nat) (w : World) (k0 : XD) (hr : RS w0 b T d false w) 
    (hfl : ∀ W, Below w.heap.size w W → Calls Tryd.prog 41 #[.agg #[.int .i64 21, .slice A 1 c, .string nm, .string pr, .int .i64 v.k, .bool v.b, .int .i64 v.n, .string v.s, .slice v.A v.p.length v.c]] W fun e w' => e = .returned (.bool true) ∧ Below W.heap.size W w') (hd : d ≤ 50) (hx : ReadsXD w0 (.mk 21 A [k0] c nm pr v)) (hk : RefOk w0 b k0) :
    Calls Tryd.prog 16 #[.pointer (some ⟨b, 0, none⟩), .agg #[.int .i64 21, .slice A 1 c, .string nm, .string pr, .int .i64 v.k, .bool v.b, .int .i64 v.n, .string v.s, .slice v.A v.p.length v.c]] w fun e w' => e = .returned (.tuple #[]) ∧ (RS w0 b (T ++ ([76, 69, 78, 71, 84, 72, 40] ++ (textX k0 ++ [41]))) d (decide (50 < d + 1) || !okX k0 (d + 1)) w' ∧ KeptR b w w') := by
  have HR := Aside0.mk hr
  clear hr
  have HC := Aside0.mk (fun (W : World) (h : RS w0 b T d false W) => rcall_21 w0 b T A c nm pr v d W k0 h hd hx hk)
  clear hd hx hk
  go_enter Tryd.func16, Tryd.ntmps16
  go_upto_region 2 with (go_at_call 41; refine (hfl _ (by repeat (first | exact Below.refl _ _ | assumption | apply below_more))).mono ?_; rintro e w1 ⟨rfl, hb1⟩)
  have HX1 : Aside0 (BX w1 w.heap.size #[.int .i64 21, .slice A 1 c, .string nm, .string pr, .int .i64 v.k, .bool v.b, .int .i64 v.n, .string v.s, .slice v.A v.p.length v.c] 29) := ⟨(BX.new w _ _).below hb1⟩
  have HR1 : Aside0 (RS w0 b T d false w1) := ⟨(HR.out.alloc _).below hb1⟩
  have HK1 : Aside0 (KeptR b w w1) := ⟨keptR_below (below_then (below_more (Below.refl _ _) _) hb1)⟩
  have hc := HR1.out.cells.2
  have hf := HR1.out.free 2
  have hbx := HX1.out.cells
  clear hb1 hfl
  have hl1 := HC.out w1 HR1.out
  go_wp2_with (go_at_call 46; refine hl1.mono ?_; rintro e w2 ⟨rfl, h2, k2⟩)
  first | go_end0 | refine bodyPost_ret (results_none rfl _ _ _) rfl ?_
  exact ⟨rfl, h2, HK1.out.trans k2⟩
set_option maxRecDepth 100000 in
set_option maxHeartbeats 3200000 in
theorem rx_22 (w0 : World) (b : Nat) (T : List UInt8) (A : Option Addr) (c : Nat) (nm pr : ByteArray) (v : VX) (d : Nat) (w : World) (k0 : XD) (hr : RS w0 b T d false w) 
    (hfl : ∀ W, Below w.heap.size w W → Calls Tryd.prog 41 #[.agg #[.int .i64 22, .slice A 1 c, .string nm, .string pr, .int .i64 v.k, .bool v.b, .int .i64 v.n, .string v.s, .slice v.A v.p.length v.c]] W fun e w' => e = .returned (.bool true) ∧ Below W.heap.size W w') (hd : d ≤ 50) (hx : ReadsXD w0 (.mk 22 A [k0] c nm pr v)) (hk : RefOk w0 b k0) :
    Calls Tryd.prog 16 #[.pointer (some ⟨b, 0, none⟩), .agg #[.int .i64 22, .slice A 1 c, .string nm, .string pr, .int .i64 v.k, .bool v.b, .int .i64 v.n, .string v.s, .slice v.A v.p.length v.c]] w fun e w' => e = .returned (.tuple #[]) ∧ (RS w0 b (T ++ ([67, 79, 85, 78, 84, 40] ++ (textX k0 ++ [41]))) d (decide (50 < d + 1) || !okX k0 (d + 1)) w' ∧ KeptR b w w') := by
  have HR := Aside0.mk hr
  clear hr
  have HC := Aside0.mk (fun (W : World) (h : RS w0 b T d false W) => rcall_22 w0 b T A c nm pr v d W k0 h hd hx hk)
  clear hd hx hk
  go_enter Tryd.func16, Tryd.ntmps16
  go_upto_region 2 with (go_at_call 41; refine (hfl _ (by repeat (first | exact Below.refl _ _ | assumption | apply below_more))).mono ?_; rintro e w1 ⟨rfl, hb1⟩)
  have HX1 : Aside0 (BX w1 w.heap.size #[.int .i64 22, .slice A 1 c, .string nm, .string pr, .int .i64 v.k, .bool v.b, .int .i64 v.n, .string v.s, .slice v.A v.p.length v.c] 29) := ⟨(BX.new w _ _).below hb1⟩
  have HR1 : Aside0 (RS w0 b T d false w1) := ⟨(HR.out.alloc _).below hb1⟩
  have HK1 : Aside0 (KeptR b w w1) := ⟨keptR_below (below_then (below_more (Below.refl _ _) _) hb1)⟩
  have hc := HR1.out.cells.2
  have hf := HR1.out.free 2
  have hbx := HX1.out.cells
  clear hb1 hfl
  have hl1 := HC.out w1 HR1.out
  go_wp2_with (go_at_call 46; refine hl1.mono ?_; rintro e w2 ⟨rfl, h2, k2⟩)
  first | go_end0 | refine bodyPost_ret (results_none rfl _ _ _) rfl ?_
  exact ⟨rfl, h2, HK1.out.trans k2⟩
set_option maxRecDepth 100000 in
set_option maxHeartbeats 3200000 in
theorem rx_23 (w0 : World) (b : Nat) (T : List UInt8) (A : Option Addr) (c : Nat) (nm pr : ByteArray) (v : VX) (d : Nat) (w : World) (k0 : XD) (hr : RS w0 b T d false w) 
    (hfl : ∀ W, Below w.heap.size w W → Calls Tryd.prog 41 #[.agg #[.int .i64 23, .slice A 1 c, .string nm, .string pr, .int .i64 v.k, .bool v.b, .int .i64 v.n, .string v.s, .slice v.A v.p.length v.c]] W fun e w' => e = .returned (.bool true) ∧ Below W.heap.size W w') (hd : d ≤ 50) (hx : ReadsXD w0 (.mk 23 A [k0] c nm pr v)) (hk : RefOk w0 b k0) :
    Calls Tryd.prog 16 #[.pointer (some ⟨b, 0, none⟩), .agg #[.int .i64 23, .slice A 1 c, .string nm, .string pr, .int .i64 v.k, .bool v.b, .int .i64 v.n, .string v.s, .slice v.A v.p.length v.c]] w fun e w' => e = .returned (.tuple #[]) ∧ (RS w0 b (T ++ ([83, 85, 77, 40] ++ (textX k0 ++ [41]))) d (decide (50 < d + 1) || !okX k0 (d + 1)) w' ∧ KeptR b w w') := by
  have HR := Aside0.mk hr
  clear hr
  have HC := Aside0.mk (fun (W : World) (h : RS w0 b T d false W) => rcall_23 w0 b T A c nm pr v d W k0 h hd hx hk)
  clear hd hx hk
  go_enter Tryd.func16, Tryd.ntmps16
  go_upto_region 2 with (go_at_call 41; refine (hfl _ (by repeat (first | exact Below.refl _ _ | assumption | apply below_more))).mono ?_; rintro e w1 ⟨rfl, hb1⟩)
  have HX1 : Aside0 (BX w1 w.heap.size #[.int .i64 23, .slice A 1 c, .string nm, .string pr, .int .i64 v.k, .bool v.b, .int .i64 v.n, .string v.s, .slice v.A v.p.length v.c] 29) := ⟨(BX.new w _ _).below hb1⟩
  have HR1 : Aside0 (RS w0 b T d false w1) := ⟨(HR.out.alloc _).below hb1⟩
  have HK1 : Aside0 (KeptR b w w1) := ⟨keptR_below (below_then (below_more (Below.refl _ _) _) hb1)⟩
  have hc := HR1.out.cells.2
  have hf := HR1.out.free 2
  have hbx := HX1.out.cells
  clear hb1 hfl
  have hl1 := HC.out w1 HR1.out
  go_wp2_with (go_at_call 46; refine hl1.mono ?_; rintro e w2 ⟨rfl, h2, k2⟩)
  first | go_end0 | refine bodyPost_ret (results_none rfl _ _ _) rfl ?_
  exact ⟨rfl, h2, HK1.out.trans k2⟩
set_option maxRecDepth 100000 in
set_option maxHeartbeats 3200000 in
theorem rx_24 (w0 : World) (b : Nat) (T : List UInt8) (A : Option Addr) (c : Nat) (nm pr : ByteArray) (v : VX) (d : Nat) (w : World) (k0 : XD) (hr : RS w0 b T d false w) 
    (hfl : ∀ W, Below w.heap.size w W → Calls Tryd.prog 41 #[.agg #[.int .i64 24, .slice A 1 c, .string nm, .string pr, .int .i64 v.k, .bool v.b, .int .i64 v.n, .string v.s, .slice v.A v.p.length v.c]] W fun e w' => e = .returned (.bool true) ∧ Below W.heap.size W w') (hd : d ≤ 50) (hx : ReadsXD w0 (.mk 24 A [k0] c nm pr v)) (hk : RefOk w0 b k0) :
    Calls Tryd.prog 16 #[.pointer (some ⟨b, 0, none⟩), .agg #[.int .i64 24, .slice A 1 c, .string nm, .string pr, .int .i64 v.k, .bool v.b, .int .i64 v.n, .string v.s, .slice v.A v.p.length v.c]] w fun e w' => e = .returned (.tuple #[]) ∧ (RS w0 b (T ++ ([77, 73, 78, 40] ++ (textX k0 ++ [41]))) d (decide (50 < d + 1) || !okX k0 (d + 1)) w' ∧ KeptR b w w') := by
  have HR := Aside0.mk hr
  clear hr
  have HC := Aside0.mk (fun (W : World) (h : RS w0 b T d false W) => rcall_24 w0 b T A c nm pr v d W k0 h hd hx hk)
  clear hd hx hk
  go_enter Tryd.func16, Tryd.ntmps16
  go_upto_region 2 with (go_at_call 41; refine (hfl _ (by repeat (first | exact Below.refl _ _ | assumption | apply below_more))).mono ?_; rintro e w1 ⟨rfl, hb1⟩)
  have HX1 : Aside0 (BX w1 w.heap.size #[.int .i64 24, .slice A 1 c, .string nm, .string pr, .int .i64 v.k, .bool v.b, .int .i64 v.n, .string v.s, .slice v.A v.p.length v.c] 29) := ⟨(BX.new w _ _).below hb1⟩
  have HR1 : Aside0 (RS w0 b T d false w1) := ⟨(HR.out.alloc _).below hb1⟩
  have HK1 : Aside0 (KeptR b w w1) := ⟨keptR_below (below_then (below_more (Below.refl _ _) _) hb1)⟩
  have hc := HR1.out.cells.2
  have hf := HR1.out.free 2
  have hbx := HX1.out.cells
  clear hb1 hfl
  have hl1 := HC.out w1 HR1.out
  go_wp2_with (go_at_call 46; refine hl1.mono ?_; rintro e w2 ⟨rfl, h2, k2⟩)
  first | go_end0 | refine bodyPost_ret (results_none rfl _ _ _) rfl ?_
  exact ⟨rfl, h2, HK1.out.trans k2⟩
set_option maxRecDepth 100000 in
set_option maxHeartbeats 3200000 in
theorem rx_25 (w0 : World) (b : Nat) (T : List UInt8) (A : Option Addr) (c : Nat) (nm pr : ByteArray) (v : VX) (d : Nat) (w : World) (k0 : XD) (hr : RS w0 b T d false w) 
    (hfl : ∀ W, Below w.heap.size w W → Calls Tryd.prog 41 #[.agg #[.int .i64 25, .slice A 1 c, .string nm, .string pr, .int .i64 v.k, .bool v.b, .int .i64 v.n, .string v.s, .slice v.A v.p.length v.c]] W fun e w' => e = .returned (.bool true) ∧ Below W.heap.size W w') (hd : d ≤ 50) (hx : ReadsXD w0 (.mk 25 A [k0] c nm pr v)) (hk : RefOk w0 b k0) :
    Calls Tryd.prog 16 #[.pointer (some ⟨b, 0, none⟩), .agg #[.int .i64 25, .slice A 1 c, .string nm, .string pr, .int .i64 v.k, .bool v.b, .int .i64 v.n, .string v.s, .slice v.A v.p.length v.c]] w fun e w' => e = .returned (.tuple #[]) ∧ (RS w0 b (T ++ ([77, 65, 88, 40] ++ (textX k0 ++ [41]))) d (decide (50 < d + 1) || !okX k0 (d + 1)) w' ∧ KeptR b w w') := by
  have HR := Aside0.mk hr
  clear hr
  have HC := Aside0.mk (fun (W : World) (h : RS w0 b T d false W) => rcall_25 w0 b T A c nm pr v d W k0 h hd hx hk)
  clear hd hx hk
  go_enter Tryd.func16, Tryd.ntmps16
  go_upto_region 2 with (go_at_call 41; refine (hfl _ (by repeat (first | exact Below.refl _ _ | assumption | apply below_more))).mono ?_; rintro e w1 ⟨rfl, hb1⟩)
  have HX1 : Aside0 (BX w1 w.heap.size #[.int .i64 25, .slice A 1 c, .string nm, .string pr, .int .i64 v.k, .bool v.b, .int .i64 v.n, .string v.s, .slice v.A v.p.length v.c] 29) := ⟨(BX.new w _ _).below hb1⟩
  have HR1 : Aside0 (RS w0 b T d false w1) := ⟨(HR.out.alloc _).below hb1⟩
  have HK1 : Aside0 (KeptR b w w1) := ⟨keptR_below (below_then (below_more (Below.refl _ _) _) hb1)⟩
  have hc := HR1.out.cells.2
  have hf := HR1.out.free 2
  have hbx := HX1.out.cells
  clear hb1 hfl
  have hl1 := HC.out w1 HR1.out
  go_wp2_with (go_at_call 46; refine hl1.mono ?_; rintro e w2 ⟨rfl, h2, k2⟩)
  first | go_end0 | refine bodyPost_ret (results_none rfl _ _ _) rfl ?_
  exact ⟨rfl, h2, HK1.out.trans k2⟩
set_option maxRecDepth 100000 in
set_option maxHeartbeats 3200000 in
theorem rx_26 (w0 : World) (b : Nat) (T : List UInt8) (A : Option Addr) (c : Nat) (nm pr : ByteArray) (v : VX) (d : Nat) (w : World) (hr : RS w0 b T d false w) 
    (hfl : ∀ W, Below w.heap.size w W → Calls Tryd.prog 41 #[.agg #[.int .i64 26, .slice A 0 c, .string nm, .string pr, .int .i64 v.k, .bool v.b, .int .i64 v.n, .string v.s, .slice v.A v.p.length v.c]] W fun e w' => e = .returned (.bool true) ∧ Below W.heap.size W w') (hd : d ≤ 50) :
    Calls Tryd.prog 16 #[.pointer (some ⟨b, 0, none⟩), .agg #[.int .i64 26, .slice A 0 c, .string nm, .string pr, .int .i64 v.k, .bool v.b, .int .i64 v.n, .string v.s, .slice v.A v.p.length v.c]] w fun e w' => e = .returned (.tuple #[]) ∧ (RS w0 b (T ++ ([67, 79, 85, 78, 84, 40] ++ ([42] ++ [41]))) d (decide (50 < d + 1)) w' ∧ KeptR b w w') := by
  have HR := Aside0.mk hr
  clear hr
  have HC := Aside0.mk (fun (W : World) (h : RS w0 b T d false W) => rcall_26 w0 b T A c nm pr v d W h hd)
  clear hd
  go_enter Tryd.func16, Tryd.ntmps16
  go_upto_region 2 with (go_at_call 41; refine (hfl _ (by repeat (first | exact Below.refl _ _ | assumption | apply below_more))).mono ?_; rintro e w1 ⟨rfl, hb1⟩)
  have HX1 : Aside0 (BX w1 w.heap.size #[.int .i64 26, .slice A 0 c, .string nm, .string pr, .int .i64 v.k, .bool v.b, .int .i64 v.n, .string v.s, .slice v.A v.p.length v.c] 29) := ⟨(BX.new w _ _).below hb1⟩
  have HR1 : Aside0 (RS w0 b T d false w1) := ⟨(HR.out.alloc _).below hb1⟩
  have HK1 : Aside0 (KeptR b w w1) := ⟨keptR_below (below_then (below_more (Below.refl _ _) _) hb1)⟩
  have hc := HR1.out.cells.2
  have hf := HR1.out.free 2
  have hbx := HX1.out.cells
  clear hb1 hfl
  have hl1 := HC.out w1 HR1.out
  go_wp2_with (go_at_call 46; refine hl1.mono ?_; rintro e w2 ⟨rfl, h2, k2⟩)
  first | go_end0 | refine bodyPost_ret (results_none rfl _ _ _) rfl ?_
  exact ⟨rfl, h2, HK1.out.trans k2⟩
end Go.Proofs.YtkchpgjjkckfbaaDoor
