/- What the encodings' walks share: the bytes of a value. -/
import Derived.Test.YthafbdkjpgeopaaDoorEnc
import Derived.Test.YthafbdkjpgeopaaDoorSame
import Derived.Lib.AppendStr
import Derived.Deep.RegionLaw
set_option linter.unusedVariables false
set_option linter.unusedSimpArgs false
namespace Go.Proofs.YthafbdkjpgeopaaDoor
open Go.RowKit

/-- The bytes of numbers of eight, one behind the other. -/
def octL : List Int → List Value
  | [] => []
  | x :: r => octs x 8 8 ++ octL r
theorem octL_append : ∀ (a b : List Int), octL (a ++ b) = octL a ++ octL b
  | [], b => rfl
  | x :: r, b => by simp [octL, octL_append r b]
theorem octL_length : ∀ (p : List Int), (octL p).length = 8 * p.length
  | [] => rfl
  | x :: r => by simp [octL, octs_length, octL_length r]; omega
theorem octL_take (p : List Int) (k : Nat) (h : k < p.length) : octL (p.take (k + 1)) = octL (p.take k) ++ octs (p.getD k 0) 8 8 := by
  rw [List.take_add_one, octL_append]
  simp [List.getD, h, octL]
/-- The bytes of a thing that is a value. -/
def encB (k : Int) (b : Bool) (n : Int) (s : ByteArray) (p : List Int) : List Value :=
  if k = 0 then [.int .u8 0]
  else if k = 1 then [.int .u8 1] ++ [.int .u8 (if b then 1 else 0)]
  else if k = 2 ∨ k = 4 ∨ k = 5 then [.int .u8 k] ++ octs n 8 8
  else if k = 3 then [.int .u8 3] ++ octs s.size 4 4 ++ Lib.strCells s
  else [.int .u8 6] ++ [.int .u8 (p.length : Int)] ++ octL p
/-- What Encode answers. -/
def encL (k : Int) (b : Bool) (n : Int) (s : ByteArray) (p : List Int) : List Value := if rightB k b n s p then encB k b n s p else []
theorem wrap64 (n : Int) : IntKind.u64.wrap n = n % 18446744073709551616 := by
  simp [IntKind.wrap, IntKind.signed, IntKind.bits]
theorem octs4 (x : Int) : octs x 4 4 = [.int .u8 (IntKind.u8.wrap (x / 16777216)), .int .u8 (IntKind.u8.wrap (x / 65536)), .int .u8 (IntKind.u8.wrap (x / 256)), .int .u8 (IntKind.u8.wrap x)] := by
  simp [octs, List.range_succ, byteAt, IntKind.wrap, IntKind.signed, IntKind.bits]
/-- A row that was just laid is owned. -/
theorem own_one (w : World) (B : Nat) (c : Value) (h : B ≤ w.heap.size) : (w.alloc (.cells #[c] 5)).ownsRow B 5 1 (.slice (some ⟨w.heap.size, 0, none⟩) 1 1) 1 [c] :=
  ⟨by simp, .inr ⟨w.heap.size, 1, #[c], rfl, h, heap_alloc_new w _, Nat.le_refl _, by decide, by simp, by simp⟩⟩
theorem addr_add (b j : Nat) : (⟨b, 0, none⟩ : Addr).add j = ⟨b, j, none⟩ := by
  cases j <;> simp [Addr.add]
/-- A text turned into bytes: a new row that holds them. -/
theorem conv_bytes (W : World) (s : ByteArray) : ∃ (cc : Nat) (row : Obj), (convert 9 30 (.string s)).run Tryd.prog W = .ok (.slice (some ⟨W.heap.size, 0, none⟩) s.size cc) (W.drew.alloc row) ∧
    ∀ j u, (Lib.strCells s)[j]? = some u → (W.drew.alloc row).cell? ⟨W.heap.size, j, none⟩ = some u := by
  refine ⟨_, _, run_bytes_of_string W 9 30 5 s Tryd.underlying9 Tryd.underlying30 Tryd.underlying5, fun j u hj => ?_⟩
  have hjl : j < s.size := by
    have := (List.getElem?_eq_some_iff.1 hj).1
    rwa [Lib.strCells_length] at this
  have hc : ∀ (C : Array Value) (f : Nat × Nat), (W.drew.alloc (.cells C 5 f)).cell? ⟨W.heap.size, j, none⟩ = C[j]? := fun C f => by
    have : (W.drew.alloc (.cells C 5 f)).heap[W.heap.size]? = some (.cells C 5 f) := by
      show (W.heap.push (.cells C 5 f))[W.heap.size]? = _
      simp
    unfold World.cell?
    rw [this]
    rfl
  rw [hc, ← hj]
  simp [bytesRow, Lib.strCells, Array.getElem?_append, show j < s.data.size from hjl]
  omega
/-- As 'wp_append_own', of a text's bytes. -/
theorem wp_append_text {P : Program} {w : World} {o : Oper} {a : Act} {K : Act → World → Prop} {Q : Exit → Act → World → Prop} (sl x : Operand) (t u : TypeId)
    (ho : o.op = .call { callee := .builtin .append, args := #[sl, x], argTypes := #[t, u] })
    (base : Nat) (e : TypeId) (i : TypeInfo) (ht : P.underlying t = some (.slice e)) (hu : P.underlying u = some .string) (hi : P.info? e = some i) (hz : i.zero = some (.int .u8 0))
    (hsize : i.size = 1) (hby : i.bytes = 1)
    (v : Value) (n : Nat) (xs : List Value) (hs : a.eval sl = v) (hown : w.ownsRow base e 1 v n xs) (s : ByteArray) (hx : a.eval x = .string s)
    (h63 : n + s.size ≤ maxLen) (hbytes : n + s.size ≤ 140737488355328) (hbase : base ≤ w.heap.size)
    (h : ∀ v' w', w'.ownsRow base e 1 v' (n + s.size) (xs ++ Lib.strCells s) → w.grownBy w' v.ownBlock → K (a.put o.dst v') w') : o.wp P a w K Q := by
  obtain ⟨v', w', hr, h2, h3, h4⟩ := Lib.run_append_own_string (P := P) w base t u o.type e i ht hu hi hz hsize hby v n xs hown s h63 hbytes hbase
  unfold Oper.wp execOp
  simp only [ho, resolve, invoke, builtin, Sem.run_bind, Sem.run_pure, Result.andThen_ok, List.map_toArray, List.map_cons, List.map_nil, hs, hx, hr]
  exact h v' w' h2 h3
theorem own_base {w : World} {B C : Nat} {e : TypeId} {z : Nat} {v : Value} {n : Nat} {xs : List Value} (h : w.ownsRow B e z v n xs) (hc : C ≤ B) : w.ownsRow C e z v n xs := by
  rcases h with ⟨h1, h2 | ⟨g, cap, cur, e1, e2, e3⟩⟩
  · exact ⟨h1, .inl h2⟩
  · exact ⟨h1, .inr ⟨g, cap, cur, e1, by omega, e3⟩⟩
theorem below_base {B C : Nat} {w w' : World} (h : Below B w w') (hc : C ≤ B) : Below C w w' := ⟨h.os, h.tape, h.output, h.size, fun k hk => h.block k (by omega)⟩
theorem below_trans {B : Nat} {w w1 w2 : World} (h : Below B w w1) (h' : Below B w1 w2) : Below B w w2 :=
  ⟨h'.os.trans h.os, h'.tape.trans h.tape, h'.output.trans h.output, Nat.le_trans h.size h'.size, fun k hk => (h'.block k hk).trans (h.block k hk)⟩
end Go.Proofs.YthafbdkjpgeopaaDoor
