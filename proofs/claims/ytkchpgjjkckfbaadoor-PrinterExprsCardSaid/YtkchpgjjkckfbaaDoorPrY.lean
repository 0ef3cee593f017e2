/- The printer's told and PrintExpr. -/
import Derived.Test.YtkchpgjjkckfbaaDoorPrX
set_option linter.unusedVariables false
set_option linter.unusedSimpArgs false
namespace Go.Proofs.YtkchpgjjkckfbaaDoor
open Go.RowKit

/-- What is told in the end. -/
def toldT (fl : Bool) (T : List UInt8) : List UInt8 := if fl then [] else if T.length ≤ 4096 then T else []
def toldE (fl : Bool) (T : List UInt8) : Int := if fl then 83 else if T.length ≤ 4096 then 0 else 2
theorem WS.fresh {w0 W : World} (hb : Below w0.heap.size w0 W) : WS w0 W.heap.size [] false (W.alloc (.cells #[.pointer none, .slice none 0 0, .bool false] 52)) :=
  ⟨[], .inl ⟨hb.size, .slice none 0 0, heap_alloc_new W _, World.ownsRowF_of (World.ownsRow_nil _ _ _ _), by simp [Value.ownBlock]⟩, by simp, fun _ => CutT.nil, below_more hb _⟩
set_option maxRecDepth 100000 in
set_option maxHeartbeats 1600000 in
theorem WS.told {w0 : World} {b : Nat} {T : List UInt8} {fl : Bool} {W : World} (h : WS w0 b T fl W) :
    Calls Tryd.prog 15 #[.pointer (some ⟨b, 0, none⟩)] W fun e w' => e = .returned (.tuple #[.string ⟨(toldT fl T).toArray⟩, .int .i64 (toldE fl T)]) ∧ Below w0.heap.size w0 w' := by
  have hc := h.cell
  obtain ⟨bs, hi, hl, hcut, hb⟩ := h
  have HB := Aside0.mk hb
  cases fl with
  | true =>
    clear hi hcut hb hl
    go_enter Tryd.func15, Tryd.ntmps15
    go_wp2
    go_ret2
    exact ⟨rfl, HB.out⟩
  | false =>
    have hcut := hcut rfl
    have hlen := w_len _ b bs false W hi
    by_cases ht : T.length ≤ 4096
    · obtain rfl := hcut.eq ht
      have hs := w_string _ b bs false W hi hb.size
      have h4 : ¬ (4096 : Int) < (bs.length : Int) := by omega
      have HR : Aside0 (toldT false bs = bs ∧ toldE false bs = 0) := ⟨by simp [toldT, toldE, ht]⟩
      clear hi hcut hb hl ht
      go_enter Tryd.func15, Tryd.ntmps15
      go_wp2_with (first | (go_at_call 39; refine hlen.mono ?_; rintro e w2 ⟨rfl, rfl⟩) | (go_at_call 40; refine hs.mono ?_; rintro e w3 ⟨rfl, hb3⟩))
      go_ret2
      rw [HR.out.1, HR.out.2]
      exact ⟨rfl, HB.out.trans hb3⟩
    · have hm := hcut.more (by omega)
      have h4 : (4096 : Int) < (bs.length : Int) := by omega
      have HR : Aside0 (toldT false T = [] ∧ toldE false T = 2) := ⟨by simp [toldT, toldE, ht]⟩
      clear hi hcut hb hl ht hm
      go_enter Tryd.func15, Tryd.ntmps15
      go_wp2_with (go_at_call 39; refine hlen.mono ?_; rintro e w2 ⟨rfl, rfl⟩)
      go_ret2
      rw [HR.out.1, HR.out.2]
      exact ⟨rfl, HB.out⟩
set_option maxRecDepth 100000 in
set_option maxHeartbeats 1600000 in
theorem print_expr (x : XD) (w : World) (hx : ReadsXD w x) (hk : KeysLie w) (ht : Tabs w) :
    Calls Tryd.prog 7 #[.agg #[.int .i64 x.op, .slice x.A x.ks.length x.c, .string x.nm, .string x.pr, .int .i64 x.v.k, .bool x.v.b, .int .i64 x.v.n, .string x.v.s, .slice x.v.A x.v.p.length x.v.c]] w
      fun e w' => e = .returned (.tuple #[.string ⟨(toldT (!okX x 0) (textX x)).toArray⟩, .int .i64 (toldE (!okX x 0) (textX x))]) ∧ Below w.heap.size w w' := by
  have hws := WS.fresh (w0 := w) (W := w.alloc (.cells #[.int .i64 x.op, .slice x.A x.ks.length x.c, .string x.nm, .string x.pr, .int .i64 x.v.k, .bool x.v.b, .int .i64 x.v.n, .string x.v.s, .slice x.v.A x.v.p.length x.v.c] 29)) (below_more (Below.refl _ _) _)
  have hex := expr_any w (w.alloc (.cells #[.int .i64 x.op, .slice x.A x.ks.length x.c, .string x.nm, .string x.pr, .int .i64 x.v.k, .bool x.v.b, .int .i64 x.v.n, .string x.v.s, .slice x.v.A x.v.p.length x.v.c] 29)).heap.size hk ht hx 0 [] false _ hws (by omega) (fun _ => by omega)
  have hsz : (w.alloc (.cells #[.int .i64 x.op, .slice x.A x.ks.length x.c, .string x.nm, .string x.pr, .int .i64 x.v.k, .bool x.v.b, .int .i64 x.v.n, .string x.v.s, .slice x.v.A x.v.p.length x.v.c] 29)).heap.size = w.heap.size + 1 := by simp
  rw [hsz, Bool.false_or, List.nil_append] at hex
  have HEX := Aside0.mk hex
  clear hws hex hsz hx hk ht
  go_enter Tryd.func7, Tryd.ntmps7
  go_wp2_with (first | (go_at_call 14; refine HEX.out.mono ?_; rintro e w2 ⟨rfl, h2, k2⟩) | (go_at_call 15; refine h2.told.mono ?_; rintro e w3 ⟨rfl, hb3⟩))
  go_ret2
  exact ⟨rfl, hb3⟩
end Go.Proofs.YtkchpgjjkckfbaaDoor
