/- Rows of bytes that are owned, as texts; what an append leaves. -/
import Derived.Test.YtkchpgjjkckfbaaDoorVal0
import Derived.Test.YtkchpgjjkckfbaaDoorRows
import Derived.WalkKit
import Derived.OwnWalk
import Derived.Laws.AppendOwn
import Derived.Laws.BytesString
import Derived.Laws.Cells
import Derived.Lib.AppendStr
set_option linter.unusedVariables false
set_option linter.unusedSimpArgs false
namespace Go.Proofs.YtkchpgjjkckfbaaDoor
open Go.RowKit

theorem info_u8 : (Tryd.prog.info? 5).map (fun i => (i.zero, i.size, i.bytes)) = some (some (.int .u8 0), 1, 1) := by kernel_rfl
/-- What an append of one byte leaves, as the walks hand it on. -/
theorem below_grow {B : Nat} {w0 w w' : World} {row : Option Nat} (h : Below B w0 w) (hB : B ≤ w0.heap.size) (hg : w.grownBy w' row) (hr : ∀ k, row = some k → B ≤ k) : Below B w0 w' := by
  refine ⟨hg.os.trans h.os, hg.tape.trans h.tape, hg.output.trans h.output, Nat.le_trans h.size hg.size, fun k hk => ?_⟩
  exact (hg.block k (by have := h.size; omega) (fun e => by have := hr k e.symm; omega)).trans (h.block k hk)

/-- A row that was just laid is owned. -/
theorem own_one (w : World) (B : Nat) (c : Value) (h : B ≤ w.heap.size) : (w.alloc (.cells #[c] 5)).ownsRow B 5 1 (.slice (some ⟨w.heap.size, 0, none⟩) 1 1) 1 [c] :=
  ⟨by simp, .inr ⟨w.heap.size, 1, #[c], rfl, h, heap_alloc_new w _, Nat.le_refl _, by decide, by simp, by simp⟩⟩
/-- As 'wp_append_own', of a text's bytes. -/
theorem wp_append_text {P : Program} {w : World} {o : Oper} {a : Act} {K : Act → World → Prop} {Q : Exit → Act → World → Prop} (sl x : Operand) (t u : TypeId)
    (ho : o.op = .call { callee := .builtin .append, args := #[sl, x], argTypes := #[t, u] })
    (base : Nat) (e : TypeId) (i : TypeInfo) (ht : P.underlying t = some (.slice e)) (hu : P.underlying u = some .string) (hi : P.info? e = some i) (hz : i.zero = some (.int .u8 0))
    (hsize : i.size = 1) (hby : i.bytes = 1)
    (v : Value) (n : Nat) (xs : List Value) (hs : a.eval sl = v) (hown : w.ownsRow base e 1 v n xs) (s : ByteArray) (hx : a.eval x = .string s)
    (h63 : n + s.size ≤ maxLen) (hbytes : n + s.size ≤ 140737488355328) (hbase : base ≤ w.heap.size)
    (h : ∀ v' w', w'.ownsRow base e 1 v' (n + s.size) (xs ++ Lib.strCells s) → w.grownBy w' v.ownBlock → K (a.put o.dst v') w') : o.wp P a w K Q := by
  obtain ⟨v', w', hr, h2, h3, h4⟩ := Lib.run_append_own_string (P := P) w base t u o.type e i ht hu hi hz hsize hby v n xs hown s h63 hbytes hbase
  unfold Oper.wp execOp
  simp only [ho, resolve, invoke, builtin, Sem.run_bind, Sem.run_pure, Result.andThen_ok, List.map_toArray, List.map_cons, List.map_nil, hs, hx, hr]
  exact h v' w' h2 h3
/-- The text that bytes are. -/
def strOf (xs : List Value) : ByteArray := (xs.map intOf).foldl (fun r n => r.push (UInt8.ofNat n.toNat)) ByteArray.empty
def AllU8 (xs : List Value) : Prop := xs = (xs.map intOf).map (Value.int .u8)
theorem allU8_append {a b : List Value} (h : AllU8 a) (h' : AllU8 b) : AllU8 (a ++ b) := by
  unfold AllU8 at *
  rw [List.map_append, List.map_append, ← h, ← h']
theorem allU8_map {α : Type} (l : List α) (f : α → Int) : AllU8 (l.map fun x => Value.int .u8 (f x)) := by
  unfold AllU8
  simp [Function.comp_def, intOf]
theorem allU8_one (x : Int) : AllU8 [.int .u8 x] := by simp [AllU8, intOf]
theorem conv_str {W : World} {B : Nat} {v : Value} {xs : List Value} (h : W.ownsRow B 5 1 v xs.length xs) (hu : AllU8 xs) :
    (convert 48 9 v).run Tryd.prog W = .ok (.string (strOf xs)) W := by
  rcases h with ⟨hl, ⟨rfl, h0⟩ | ⟨g, cap, cur, rfl, hg, hh, hn, hm, hs, htk⟩⟩
  · obtain rfl : xs = [] := List.length_eq_zero_iff.1 h0
    rw [run_convert_bytes_string W 48 9 5 _ _ _ Tryd.underlying48 Tryd.underlying5 Tryd.underlying9]
    simp [Conv.bytesToString, strOf, Sem.run_pure]
  · rw [run_convert_bytes_string W 48 9 5 _ _ _ Tryd.underlying48 Tryd.underlying5 Tryd.underlying9]
    have hc : ∀ j v, xs[j]? = some v → W.cell? ((⟨g, 0, none⟩ : Addr).add j) = some v := World.ownsRow.cells (base := B) (e := 5) (size := 1) ⟨hl, .inr ⟨g, cap, cur, rfl, hg, hh, hn, hm, hs, htk⟩⟩ (g := g) rfl
    have := run_loadCells_list (P := Tryd.prog) W ⟨g, 0, none⟩ xs hc
    rw [run_bytesToString W ⟨g, 0, none⟩ xs.length cap (xs.map intOf) (by rw [← hu]; exact this)]
    rfl
theorem strOf_bytes (l : List UInt8) : strOf (Lib.byteCells l) = ⟨l.toArray⟩ := by
  have h : ∀ (l : List UInt8) (a : ByteArray), ((Lib.byteCells l).map intOf).foldl (fun r n => r.push (UInt8.ofNat n.toNat)) a = ⟨a.data ++ l.toArray⟩ := by
    intro l
    induction l with
    | nil => intro a; simp [Lib.byteCells]
    | cons x t ih =>
      intro a
      simp only [Lib.byteCells, List.map_cons, List.foldl_cons, intOf] at ih ⊢
      rw [ih]
      simp only [ByteArray.push]
      congr 1
      simp
  unfold strOf
  rw [h]
  show (⟨#[] ++ l.toArray⟩ : ByteArray) = _
  simp
theorem allU8_bytes (l : List UInt8) : AllU8 (Lib.byteCells l) := allU8_map l (fun b => (b.toNat : Int))
/-- An append of one byte to an own row. -/
theorem append_byte {w0 wr : World} {ops : Array Oper} {rest : List Oper} {o : Oper} {a : Act} {Q : Exit → Act → World → Prop} (hgd : o.guard = none) (s x : Operand)
    (ho : o.op = .call { callee := .builtin .append, args := #[s, x], argTypes := #[48, 48] }) (B : Nat)
    (v : Value) (n : Nat) (xs : List Value) (hs : a.eval s = v) (hown : wr.ownsRow B 5 1 v n xs) (b : Int) (hx : a.eval x = .slice (some ⟨wr.heap.size, 0, none⟩) 1 1)
    (hn : n ≤ 1000000000) (hB : B ≤ w0.heap.size) (hb : Below B w0 wr)
    (h : ∀ v' w', w'.ownsRow B 5 1 v' (n + 1) (xs ++ [.int .u8 b]) → Below B w0 w' → wpList Tryd.prog ops Q rest (a.put o.dst v') w') :
    wpList Tryd.prog ops Q (o :: rest) a (wr.alloc (.cells #[.int .u8 b] 5)) := by
  obtain ⟨i0, hi, hz0, hz1, hz2⟩ := info_parts info_u8
  have hsz := hb.size
  refine wpList_append_own (wr.alloc (.cells #[.int .u8 b] 5)) hgd s x 48 ho B 5 i0 (.int .u8 0) 1 1 Tryd.underlying48 hi hz0 hz1 hz2 rfl (by decide) v n xs hs (hown.alloc _) ⟨wr.heap.size, 0, none⟩ 1 1 [.int .u8 b] hx rfl ?c1 ?c2 ?c3 ?c4 ?c5 ?_
  case c1 =>
    intro j u hj
    match j, hj with
    | 0, hj => simp at hj; subst hj; simp [Addr.add]
  case c2 => intro u hu; simp at hu; subst hu; rfl
  case c3 => unfold maxLen; omega
  case c4 => omega
  case c5 => simp; omega
  intro v' w2 ho1 hg1 _
  exact h v' w2 ho1 (below_grow (hb.alloc (by omega) _) hB hg1 (fun k e => (hown.lt k e).1))
end Go.Proofs.YtkchpgjjkckfbaaDoor
