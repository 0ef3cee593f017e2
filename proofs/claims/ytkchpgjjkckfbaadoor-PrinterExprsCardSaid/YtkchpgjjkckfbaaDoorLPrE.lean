/- The walk of the law PrinterExprs. -/
import Derived.Test.YtkchpgjjkckfbaaDoorPrR7
set_option linter.unusedVariables false
set_option linter.unusedSimpArgs false
namespace Go.Proofs.YtkchpgjjkckfbaaDoor
open Go.RowKit

def headK : XD := .mk 2 none [] 0 ⟨#[97]⟩ ⟨#[]⟩ VX.zero
def headX (a : Option Addr) : XD := .mk 17 a [headK] 1 ⟨#[]⟩ ⟨#[]⟩ VX.zero
theorem head_ok : okX (headX none) 0 = true := by kernel_rfl
theorem head_text : textX (headX none) = [78, 79, 84, 32, 97] := by kernel_rfl
theorem head_ok' (a : Option Addr) : okX (headX a) 0 = true := head_ok
theorem head_text' (a : Option Addr) : textX (headX a) = [78, 79, 84, 32, 97] := head_text
theorem readsI_nil (w : World) : ReadsI w none [] := ⟨by simp, fun h => absurd h (by simp)⟩
theorem head_reads (w : World) : ReadsXD (w.alloc (.cells #[.int .i64 2, .slice none 0 0, .string ⟨#[97]⟩, .string ⟨#[]⟩, .int .i64 0, .bool false, .int .i64 0, .string ⟨#[]⟩, .slice none 0 0] 29)) (headX (some ⟨w.heap.size, 0, none⟩)) := by
  refine .mk ⟨by decide, by decide⟩ (by decide) (by decide) (by decide) (by decide) ⟨by decide, by decide⟩ ⟨by decide, by decide⟩ (readsI_nil _) (fun j hj => ?_) (fun k hk => ?_)
  · have hj0 : j = 0 := by simp at hj; exact hj
    subst hj0
    refine ⟨⟨w.heap.size, 0, none⟩, rfl, by simp [Addr.add], rfl, fun i hi => ?_⟩
    have hh : (w.alloc (.cells #[.int .i64 2, .slice none 0 0, .string ⟨#[97]⟩, .string ⟨#[]⟩, .int .i64 0, .bool false, .int .i64 0, .string ⟨#[]⟩, .slice none 0 0] 29)).heap[w.heap.size]? = _ := heap_alloc_new w _
    have e : (⟨((⟨w.heap.size, 0, none⟩ : Addr).add (0 * 9)).block, ((⟨w.heap.size, 0, none⟩ : Addr).add (0 * 9)).off + i, none⟩ : Addr) = ⟨w.heap.size, i, none⟩ := by simp [Addr.add]
    rw [e, Lib.cell_of_heap hh]
    match i, hi with
    | 0, _ => rfl
    | 1, _ => rfl
    | 2, _ => rfl
    | 3, _ => rfl
    | 4, _ => rfl
    | 5, _ => rfl
    | 6, _ => rfl
    | 7, _ => rfl
    | 8, _ => rfl
  · obtain rfl : k = headK := by simpa using hk
    exact .mk ⟨by decide, by decide⟩ (by decide) (by decide) (by decide) (by decide) ⟨by decide, by decide⟩ ⟨by decide, by decide⟩ (readsI_nil _) (fun j hj => absurd hj (by simp)) (fun k hk => by cases hk)
set_option maxRecDepth 100000 in
set_option maxHeartbeats 1600000 in
theorem head_any (w : World) (hk : KeysLie w) (ht : Tabs w) : Calls Tryd.prog 6 #[] w fun e w' => e = .returned (.bool true) ∧ Below w.heap.size w w' := by
  have hb : Below w.heap.size w (w.alloc (.cells #[.int .i64 2, .slice none 0 0, .string ⟨#[97]⟩, .string ⟨#[]⟩, .int .i64 0, .bool false, .int .i64 0, .string ⟨#[]⟩, .slice none 0 0] 29)) := below_more (Below.refl _ _) _
  have hp := print_expr _ _ (head_reads w) (hk.below hb) (ht.below hb)
  rw [head_ok', head_text'] at hp
  have e1 : toldT (!true) [78, 79, 84, 32, 97] = [78, 79, 84, 32, 97] := rfl
  have e2 : toldE (!true) [78, 79, 84, 32, 97] = 0 := rfl
  rw [e1, e2] at hp
  clear e1 e2 hk ht
  go_enter Tryd.func6, Tryd.ntmps6
  go_wp2_with (go_at_call 7; refine hp.mono ?_; rintro e w2 ⟨rfl, hb2⟩)
  go_ret
  exact ⟨rfl, below_then hb hb2⟩
set_option maxRecDepth 100000 in
set_option maxHeartbeats 1600000 in
theorem exprs_walk (x : XD) (w : World) (hx : ReadsXD w x) (hk : KeysLie w) (ht : Tabs w) (hT : Lib.Utf8Tabs 1 2 w) :
    Calls Tryd.prog 3 #[.agg #[.int .i64 x.op, .slice x.A x.ks.length x.c, .string x.nm, .string x.pr, .int .i64 x.v.k, .bool x.v.b, .int .i64 x.v.n, .string x.v.s, .slice x.v.A x.v.p.length x.v.c]] w fun e w' => e = .returned (.bool true) ∧ Below w.heap.size w w' := by
  have hH := fun W (h : Below w.heap.size w W) => head_any W (hk.below h) (ht.below h)
  have hP := fun W (h : Below w.heap.size w W) => print_expr x W (hx.keep h) (hk.below h) (ht.below h)
  have hQ := fun W (h : Below w.heap.size w W) => rprint_expr x W (hx.keep h) (ht.below h) (Utf8Tabs_below hT h)
  obtain ⟨r, hr⟩ : ∃ r, r = (⟨(toldT (!okX x 0) (textX x)).toArray⟩ : ByteArray) := ⟨_, rfl⟩
  obtain ⟨q, hq⟩ : ∃ q, q = toldE (!okX x 0) (textX x) := ⟨_, rfl⟩
  rw [← hr, ← hq] at hP hQ
  clear hr hq hx hk ht hT
  go_enter Tryd.func3, Tryd.ntmps3
  go_upto_region 2 with (go_at_call 6; refine (hH _ (by repeat (first | exact Below.refl _ _ | assumption | apply below_more))).mono ?_; rintro e w1 ⟨rfl, hb1⟩)
  have HX1 : Aside0 (BX w1 w.heap.size #[.int .i64 x.op, .slice x.A x.ks.length x.c, .string x.nm, .string x.pr, .int .i64 x.v.k, .bool x.v.b, .int .i64 x.v.n, .string x.v.s, .slice x.v.A x.v.p.length x.v.c] 29) := ⟨(BX.new w _ _).below hb1⟩
  have HB1 := below_then (below_more (Below.refl w.heap.size w) _) hb1
  have hbx := HX1.out.cells
  clear hb1 hH
  go_upto_region 3 with (go_at_call 7; refine (hP _ HB1).mono ?_; rintro e w2 ⟨rfl, hb2⟩)
  have HB2 := below_then HB1 hb2
  have HX2 := Aside0.mk (HX1.out.below hb2)
  have hbx := HX2.out.cells
  clear hb2 hP HB1
  go_wp2_with (go_at_call 8; refine (hQ _ HB2).mono ?_; rintro e w3 ⟨rfl, hb3⟩)
  go_ret
  exact ⟨by first | rfl | simp, below_then HB2 hb3⟩
end Go.Proofs.YtkchpgjjkckfbaaDoor
