/- A column in memory. -/
import Derived.Test.YtbdbcbpcekpcoaaDoorCvMark2
import Derived.Test.YtbdbcbpcekpcoaaDoorValC
import Derived.Maps.Own
set_option linter.unusedVariables false
set_option linter.unusedSimpArgs false
namespace Go.Proofs.YtbdbcbpcekpcoaaDoor
open Go.RowKit Go.Maps

theorem info_i64 : (Tryd.prog.info? 2).map (fun i => (i.zero, i.size, i.bytes)) = some (some (.int .i64 0), 1, 8) := by kernel_rfl
def numCells (p : List Int) : List Value := p.map fun n => .int .i64 n
theorem numCells_len (p : List Int) : (numCells p).length = p.length := by simp [numCells]
theorem numCells_snoc (P : List Int) (x : Int) : numCells (P ++ [x]) = numCells P ++ [.int .i64 x] := by simp [numCells]
def textCells (p : List ByteArray) : List Value := p.map fun s => .string s
/-- What a call leaves as it was: all blocks but those of F. -/
structure KeptBut (F : Nat → Prop) (W W' : World) : Prop where
  os : W'.os = W.os
  tape : W'.tape = W.tape
  output : W'.output = W.output
  size : W.heap.size ≤ W'.heap.size
  block : ∀ k, k < W.heap.size → ¬ F k → W'.heap[k]? = W.heap[k]?
def orNew (F : Nat → Prop) (W : World) : Nat → Prop := fun k => F k ∨ W.heap.size ≤ k
theorem KeptBut.refl (F : Nat → Prop) (W : World) : KeptBut F W W := ⟨rfl, rfl, rfl, Nat.le_refl _, fun _ _ _ => rfl⟩
theorem KeptBut.trans {F G : Nat → Prop} {a b c : World} (h : KeptBut F a b) (k : KeptBut G b c) (hG : ∀ j, j < a.heap.size → G j → F j) : KeptBut F a c :=
  ⟨k.os.trans h.os, k.tape.trans h.tape, k.output.trans h.output, Nat.le_trans h.size k.size, fun j hj hn => (k.block j (by have := h.size; omega) (fun g => hn (hG j hj g))).trans (h.block j hj hn)⟩
theorem KeptBut.mono {F G : Nat → Prop} {a b : World} (h : KeptBut F a b) (hG : ∀ j, j < a.heap.size → F j → G j) : KeptBut G a b := ⟨h.os, h.tape, h.output, h.size, fun j hj hn => h.block j hj (fun f => hn (hG j hj f))⟩
theorem keptBut_grown {F : Nat → Prop} {a b : World} {r : Option Nat} (h : a.grownBy b r) (hr : ∀ k, r = some k → F k) : KeptBut F a b :=
  ⟨h.os, h.tape, h.output, h.size, fun j hj hn => h.block j hj (fun e => hn (hr j e.symm))⟩
theorem keptBut_below {F : Nat → Prop} {a b : World} (h : Below a.heap.size a b) : KeptBut F a b := ⟨h.os, h.tape, h.output, h.size, fun j hj _ => h.block j hj⟩
theorem keptBut_alloc {F : Nat → Prop} (W : World) (o : Obj) : KeptBut F W (W.alloc o) := ⟨rfl, rfl, rfl, by simp, fun j hj _ => heap_alloc_old W o hj⟩
theorem keptBut_set {F : Nat → Prop} (W : World) (p : Addr) (v : Value) (hp : F p.block) : KeptBut F W (W.setCell p v) := ⟨rfl, rfl, rfl, by simp, fun j hj hn => heap_setCell_other W p j v (fun e => hn (e ▸ hp))⟩
theorem keptBut_drew {F : Nat → Prop} {W W' : World} (h : KeptBut F W W') : KeptBut F W W'.drew := ⟨h.os, h.tape, h.output, h.size, h.block⟩
theorem KeptBut.below {F : Nat → Prop} {a b : World} (h : KeptBut F a b) {B : Nat} (hF : ∀ k, F k → B ≤ k) (hB : B ≤ a.heap.size) : Below B a b :=
  ⟨h.os, h.tape, h.output, h.size, fun k hk => h.block k (by omega) (fun f => by have := hF k f; omega)⟩
/-- A box of a column. -/
def VecB (W : World) (b : Nat) (cs : Array Value) : Prop := W.heap[b]? = some (.cells cs 54 (0, 0))
theorem VecB.cells {W : World} {b : Nat} {cs : Array Value} (h : VecB W b cs) : ∀ j, W.cell? ⟨b, j, none⟩ = cs[j]? := fun j => by
  unfold World.cell?
  rw [h]
  rfl
theorem VecB.free {W : World} {b : Nat} {cs : Array Value} (h : VecB W b cs) : ∀ j, W.frozen? ⟨b, j, none⟩ = false := fun j => Lib.frozen_of_heap h j
theorem VecB.lt {W : World} {b : Nat} {cs : Array Value} (h : VecB W b cs) : b < W.heap.size := (Array.getElem?_eq_some_iff.1 h).1
theorem VecB.put {W : World} {b : Nat} {cs : Array Value} (h : VecB W b cs) (j : Nat) (v : Value) : VecB (W.setCell ⟨b, j, none⟩ v) b (cs.setIfInBounds j v) := heap_setCell_same W b j cs _ v h
theorem VecB.at_ {W W' : World} {b : Nat} {cs : Array Value} (h : VecB W b cs) (hk : W'.heap[b]? = W.heap[b]?) : VecB W' b cs := hk.trans h
/-- A box of a value. -/
def Box (W : World) (b : Nat) (cs : Array Value) : Prop := W.heap[b]? = some (.cells cs 39 (0, 0))
theorem Box.cells {W : World} {b : Nat} {cs : Array Value} (h : Box W b cs) : ∀ j, W.cell? ⟨b, j, none⟩ = cs[j]? := fun j => by
  unfold World.cell?
  rw [h]
  rfl
theorem Box.free {W : World} {b : Nat} {cs : Array Value} (h : Box W b cs) : ∀ j, W.frozen? ⟨b, j, none⟩ = false := fun j => Lib.frozen_of_heap h j
theorem Box.new (W : World) (cs : Array Value) : Box (W.alloc (.cells cs 39)) W.heap.size cs := heap_alloc_new W _
theorem Box.lt {W : World} {b : Nat} {cs : Array Value} (h : Box W b cs) : b < W.heap.size := (Array.getElem?_eq_some_iff.1 h).1
theorem Box.at_ {W W' : World} {b : Nat} {cs : Array Value} (h : Box W b cs) (hk : W'.heap[b]? = W.heap[b]?) : Box W' b cs := hk.trans h
theorem Box.put {W : World} {b : Nat} {cs : Array Value} (h : Box W b cs) (j : Nat) (v : Value) : Box (W.setCell ⟨b, j, none⟩ v) b (cs.setIfInBounds j v) := heap_setCell_same W b j cs _ v h
/-- What a column holds, as it lies in its rows. -/
structure VS where
  k : Int
  nl : List Bool
  bl : List Bool
  il : List Int
  dl : List ByteArray
  hp : List Int
def VS.new (k : Int) : VS := ⟨k, [], [], [], [], []⟩
/-- The texts' places, as the map holds them. -/
def dictD : List ByteArray → Nat → DataW Unit → DataW Unit
  | [], _, D => D
  | s :: r, i, D => dictD r (i + 1) (D.put (.string s.data.toList) (.lit (.int .i64 (i : Int))))
/-- Two slices' rows are apart. -/
def Apart2 (a b : Value) : Prop := a.ownBlock = none ∨ a.ownBlock ≠ b.ownBlock
/-- A column lies in memory, in blocks of F. -/
structure VecAt (W : World) (F : Nat → Prop) (b : Nat) (s : VS) (nv bv iv dv hv : Value) (m : Nat) : Prop where
  box : VecB W b #[.int .i64 s.k, .int .i64 (s.nl.length : Int), nv, bv, iv, dv, .map (some m), hv]
  nulls : OwnBits W 0 nv s.nl
  bools : OwnBits W 0 bv s.bl
  ints : W.ownsRow 0 2 1 iv s.il.length (numCells s.il)
  dict : W.ownsRow 0 9 1 dv s.dl.length (textCells s.dl)
  heap : W.ownsRow 0 2 1 hv s.hp.length (numCells s.hp)
  known : W.ownsMap Tryd.prog 9 (plainElem Tryd.prog 3) m s.dl.length (dictD s.dl 0 (.map []))
  fb : F b
  fm : F m
  fn : ∀ k, nv.ownBlock = some k → F k
  fbl : ∀ k, bv.ownBlock = some k → F k
  fi : ∀ k, iv.ownBlock = some k → F k
  fd : ∀ k, dv.ownBlock = some k → F k
  fh : ∀ k, hv.ownBlock = some k → F k
  nb : ∀ k, nv.ownBlock = some k → bv.ownBlock ≠ some k ∧ iv.ownBlock ≠ some k ∧ dv.ownBlock ≠ some k ∧ hv.ownBlock ≠ some k ∧ k ≠ b ∧ k ≠ m
  bb : ∀ k, bv.ownBlock = some k → iv.ownBlock ≠ some k ∧ dv.ownBlock ≠ some k ∧ hv.ownBlock ≠ some k ∧ k ≠ b ∧ k ≠ m
  ib : ∀ k, iv.ownBlock = some k → dv.ownBlock ≠ some k ∧ hv.ownBlock ≠ some k ∧ k ≠ b ∧ k ≠ m
  db : ∀ k, dv.ownBlock = some k → hv.ownBlock ≠ some k ∧ k ≠ b ∧ k ≠ m
  hb : ∀ k, hv.ownBlock = some k → k ≠ b ∧ k ≠ m
  bm : b ≠ m
def VecIs (W : World) (F : Nat → Prop) (b : Nat) (s : VS) : Prop := ∃ nv bv iv dv hv m, VecAt W F b s nv bv iv dv hv m
theorem ownBits_nil (W : World) : OwnBits W 0 (.slice none 0 0) [] := World.ownsRow_nil W 0 73 1
theorem own_at {W W' : World} {B : Nat} {e : TypeId} {z : Nat} {v : Value} {n : Nat} {xs : List Value} (h : W.ownsRow B e z v n xs) (hk : ∀ k, k < W.heap.size → v.ownBlock = some k → W'.heap[k]? = W.heap[k]?) : W'.ownsRow B e z v n xs := by
  rcases h with ⟨h1, h2 | ⟨g, cap, cur, rfl, e2, e3, e4⟩⟩
  · exact ⟨h1, .inl h2⟩
  · exact ⟨h1, .inr ⟨g, cap, cur, rfl, e2, (hk g (Array.getElem?_eq_some_iff.1 e3).1 rfl).trans e3, e4⟩⟩
theorem map_at {W W' : World} {P : Program} {k : TypeId} {R : Value → Option (DataW Unit × List MemPlace)} {b n : Nat} {D : DataW Unit} (h : W.ownsMap P k R b n D) (hk : W'.heap[b]? = W.heap[b]?) : W'.ownsMap P k R b n D := by
  obtain ⟨es, clock, hb, F, hs, hD⟩ := h
  exact ⟨es, clock, hk.trans hb, F, hs, hD⟩
theorem own_lt {W : World} {B : Nat} {e : TypeId} {z : Nat} {v : Value} {n : Nat} {xs : List Value} (h : W.ownsRow B e z v n xs) {k : Nat} (hk : v.ownBlock = some k) : k < W.heap.size := (h.lt k hk).2
/-- A number more: the column as it lies behind it. -/
theorem vec_num {w W : World} {F : Nat → Prop} {b : Nat} {s : VS} {nv bv iv dv hv : Value} {m : Nat} (hV : VecAt w F b s nv bv iv dv hv m) (nl : List Bool) (il : List Int) (v3 v5 : Value) (N : Nat)
    (hbx : VecB W b #[.int .i64 s.k, .int .i64 (nl.length : Int), v3, bv, v5, dv, .map (some m), hv]) (h3 : OwnBits W 0 v3 nl) (h5 : W.ownsRow 0 2 1 v5 il.length (numCells il))
    (m3 : v3.ownBlock = nv.ownBlock ∨ ∃ k, v3.ownBlock = some k ∧ w.heap.size ≤ k ∧ k < N) (m5 : v5.ownBlock = iv.ownBlock ∨ ∃ k, v5.ownBlock = some k ∧ N ≤ k) (hN : w.heap.size ≤ N)
    (hK : KeptBut (fun k => k = b ∨ nv.ownBlock = some k ∨ iv.ownBlock = some k) w W) :
    VecAt W (orNew F w) b { s with nl := nl, il := il } v3 bv v5 dv hv m := by
  have hm := hV.known.lt
  have hbw := hV.box.lt
  have o3 : ∀ k, v3.ownBlock = some k → (nv.ownBlock = some k ∧ k < w.heap.size) ∨ (w.heap.size ≤ k ∧ k < N) := fun k e => by
    rcases m3 with h | ⟨j, h, h1, h2⟩
    · exact .inl ⟨h ▸ e, own_lt hV.nulls (h ▸ e)⟩
    · rw [h] at e; cases e; exact .inr ⟨h1, h2⟩
  have o5 : ∀ k, v5.ownBlock = some k → (iv.ownBlock = some k ∧ k < w.heap.size) ∨ N ≤ k := fun k e => by
    rcases m5 with h | ⟨j, h, h1⟩
    · exact .inl ⟨h ▸ e, own_lt hV.ints (h ▸ e)⟩
    · rw [h] at e; cases e; exact .inr h1
  have ob : ∀ k, bv.ownBlock = some k → k < w.heap.size := fun k e => own_lt hV.bools e
  have od : ∀ k, dv.ownBlock = some k → k < w.heap.size := fun k e => own_lt hV.dict e
  have oh : ∀ k, hv.ownBlock = some k → k < w.heap.size := fun k e => own_lt hV.heap e
  refine ⟨hbx, h3, own_at hV.bools (fun k hk e => hK.block k hk ?_), h5, own_at hV.dict (fun k hk e => hK.block k hk ?_), own_at hV.heap (fun k hk e => hK.block k hk ?_), map_at hV.known (hK.block m hm ?_), .inl hV.fb, .inl hV.fm, ?_, fun k e => .inl (hV.fbl k e), ?_, fun k e => .inl (hV.fd k e), fun k e => .inl (hV.fh k e), ?_, ?_, ?_, hV.db, hV.hb, hV.bm⟩
  · rintro (h | h | h)
    · exact (hV.bb k e).2.2.2.1 h
    · exact (hV.nb k h).1 e
    · exact (hV.bb k e).1 h
  · rintro (h | h | h)
    · exact (hV.db k e).2.1 h
    · exact (hV.nb k h).2.2.1 e
    · exact (hV.ib k h).1 e
  · rintro (h | h | h)
    · exact (hV.hb k e).1 h
    · exact (hV.nb k h).2.2.2.1 e
    · exact (hV.ib k h).2.1 e
  · rintro (h | h | h)
    · exact hV.bm h.symm
    · exact (hV.nb m h).2.2.2.2.2 rfl
    · exact (hV.ib m h).2.2.2 rfl
  · intro k e
    rcases o3 k e with h | h
    · exact .inl (hV.fn k h.1)
    · exact .inr h.1
  · intro k e
    rcases o5 k e with h | h
    · exact .inl (hV.fi k h.1)
    · exact .inr (Nat.le_trans hN h)
  · intro k e
    rcases o3 k e with ⟨h, hl⟩ | ⟨h, hl⟩
    · have q := hV.nb k h
      refine ⟨q.1, fun e5 => ?_, q.2.2.1, q.2.2.2.1, q.2.2.2.2.1, q.2.2.2.2.2⟩
      rcases o5 k e5 with h5 | h5
      · exact q.2.1 h5.1
      · omega
    · refine ⟨fun e2 => ?_, fun e5 => ?_, fun e2 => ?_, fun e2 => ?_, by omega, by omega⟩
      · have := ob k e2; omega
      · rcases o5 k e5 with h5 | h5 <;> omega
      · have := od k e2; omega
      · have := oh k e2; omega
  · intro k e
    have q := hV.bb k e
    refine ⟨fun e5 => ?_, q.2⟩
    rcases o5 k e5 with h5 | h5
    · exact q.1 h5.1
    · have := ob k e; omega
  · intro k e
    rcases o5 k e with ⟨h, hl⟩ | h
    · exact hV.ib k h
    · refine ⟨fun e2 => ?_, fun e2 => ?_, by omega, by omega⟩
      · have := od k e2; omega
      · have := oh k e2; omega
set_option maxRecDepth 100000 in
set_option maxHeartbeats 3200000 in
theorem new_none (k : Int) (w : World) (h : k < 1 ∨ 6 < k) : Calls Tryd.prog 7 #[.int .i64 k] w fun e w' => e = .returned (.pointer none) ∧ w' = w := by
  rcases h with h | h
  · go_enter Tryd.func7, Tryd.ntmps7
    go_wp2
    go_ret
    exact ⟨rfl, rfl⟩
  · have h1 : ¬ k < 1 := by omega
    go_enter Tryd.func7, Tryd.ntmps7
    go_wp2
    go_ret
    exact ⟨rfl, rfl⟩
set_option maxRecDepth 100000 in
set_option maxHeartbeats 3200000 in
theorem new_any (k : Int) (w : World) (h : 1 ≤ k ∧ k ≤ 6) : Calls Tryd.prog 7 #[.int .i64 k] w fun e w' => e = .returned (.pointer (some ⟨w.heap.size + 1, 0, none⟩)) ∧ VecIs w' (fun j => w.heap.size ≤ j) (w.heap.size + 1) (VS.new k) ∧ Below w.heap.size w w' := by
  obtain ⟨h1, h2⟩ := h
  have hn1 : ¬ k < 1 := by omega
  have hn2 : ¬ 6 < k := by omega
  have hmm := @run_makeMap Tryd.prog
  go_enter Tryd.func7, Tryd.ntmps7
  go_wp2
  go_ret
  refine ⟨rfl, ⟨.slice none 0 0, .slice none 0 0, .slice none 0 0, .slice none 0 0, .slice none 0 0, w.heap.size, ?_⟩, ((Below.refl _ _).alloc (Nat.le_refl _) _).alloc (by simp) _⟩
  have hv : ∀ (j : Nat), Value.ownBlock (.slice none 0 0) = some j → False := fun j e => by cases e
  refine ⟨?_, ownBits_nil _, ownBits_nil _, World.ownsRow_nil _ _ _ _, World.ownsRow_nil _ _ _ _, World.ownsRow_nil _ _ _ _, ?_, by simp, by simp, fun j e => (hv j e).elim, fun j e => (hv j e).elim, fun j e => (hv j e).elim, fun j e => (hv j e).elim, fun j e => (hv j e).elim, fun j e => (hv j e).elim, fun j e => (hv j e).elim, fun j e => (hv j e).elim, fun j e => (hv j e).elim, fun j e => (hv j e).elim, by simp⟩
  · have h := heap_alloc_new (w.alloc (.map #[] 0)) (.cells #[.int .i64 k, .int .i64 0, .slice none 0 0, .slice none 0 0, .slice none 0 0, .slice none 0 0, .map (some w.heap.size), .slice none 0 0] 54)
    simpa [VecB, VS.new] using h
  · exact (World.ownsMap_made w Tryd.prog 9 (plainElem Tryd.prog 3)).alloc _
end Go.Proofs.YtbdbcbpcekpcoaaDoor
