/- Graphs as they are handed in: plain words of Check. -/
import Derived.Test.YtffifhinhemkdaaDoorRgRec
import Derived.Test.YtffifhinhemkdaaDoorRgHd2
set_option linter.unusedVariables false
set_option linter.unusedSimpArgs false
namespace Go.Proofs.YtffifhinhemkdaaDoor
open Go.RowKit Go.Maps

structure ND where
  id : Int
  lb : ByteArray
  A : Option Addr
  qs : List QD
  c : Nat
structure ED where
  id : Int
  lb : ByteArray
  f : Int
  t : Int
  A : Option Addr
  qs : List QD
  c : Nat
def ND.zero : ND := ⟨0, ⟨#[]⟩, none, [], 0⟩
def ED.zero : ED := ⟨0, ⟨#[]⟩, 0, 0, none, [], 0⟩
def ND.key (x : ND) : List UInt8 := x.lb.data.toList
def ED.key (x : ED) : List UInt8 := x.lb.data.toList
/-- The first node that may not be, at a place, behind those whose IDs are there. -/
def nodeR (ts : List TD) : List Int → Nat → List ND → Option (Nat × Int)
  | _, _, [] => none
  | ids, i, x :: r => if recErr ts ids x.id x.key x.qs true = 0 then nodeR ts (ids ++ [x.id]) (i + 1) r else some (i, recErr ts ids x.id x.key x.qs true)
def endsB (nids : List Int) (x : ED) : Bool := decide (x.f ∈ nids) && decide (x.t ∈ nids)
def edgeR (ts : List TD) (nids : List Int) : List Int → Nat → List ED → Option (Nat × Int)
  | _, _, [] => none
  | ids, i, x :: r => if recErr ts ids x.id x.key x.qs (endsB nids x) = 0 then edgeR ts nids (ids ++ [x.id]) (i + 1) r else some (i, recErr ts ids x.id x.key x.qs (endsB nids x))
/-- Check's answer: the part, the place, the error. -/
def checkR (nts ets : List TD) (ns : List ND) (es : List ED) : Int × Nat × Int :=
  match declR [] 0 nts with
  | some (i, e) => (1, i, e)
  | none => match declR [] 0 ets with
    | some (i, e) => (2, i, e)
    | none => match nodeR nts [] 0 ns with
      | some (i, e) => (3, i, e)
      | none => match edgeR ets (ns.map ND.id) [] 0 es with
        | some (i, e) => (4, i, e)
        | none => (0, 0, 0)
theorem declR_err : ∀ (ts : List TD) (prev : List (List UInt8)) (i j : Nat) (e : Int), declR prev i ts = some (j, e) → ¬ e = 0
  | [], prev, i, j, e, h => by cases h
  | t :: r, prev, i, j, e, h => by
    unfold declR at h
    split at h
    · exact declR_err r _ _ j e h
    · rename_i hne
      cases h
      exact hne
theorem declR_nodup : ∀ (ts : List TD) (prev : List (List UInt8)) (i : Nat), declR prev i ts = none → prev.Nodup → (prev ++ ts.map TD.key).Nodup
  | [], prev, i, h, hp => by simpa using hp
  | t :: r, prev, i, h, hp => by
    unfold declR at h
    split at h
    · rename_i h0
      have hnot : ¬ t.key ∈ prev := fun hin => by
        rw [typeErr, if_pos hin] at h0
        split at h0
        · cases h0
        · split at h0 <;> cases h0
      have h2 := declR_nodup r (prev ++ [t.key]) (i + 1) h (by
        rw [List.nodup_append]
        exact ⟨hp, by simp, fun a ha b hb e => by simp at hb; subst hb; exact hnot (e ▸ ha)⟩)
      rw [List.append_assoc] at h2
      exact h2
    · cases h
theorem nodeR_at (ts : List TD) (ns : List ND) (j : Nat) (h : j < ns.length) : nodeR ts ((ns.take j).map ND.id) j (ns.drop j) = if recErr ts ((ns.take j).map ND.id) (ns.getD j ND.zero).id (ns.getD j ND.zero).key (ns.getD j ND.zero).qs true = 0 then nodeR ts ((ns.take (j + 1)).map ND.id) (j + 1) (ns.drop (j + 1)) else some (j, recErr ts ((ns.take j).map ND.id) (ns.getD j ND.zero).id (ns.getD j ND.zero).key (ns.getD j ND.zero).qs true) := by
  rw [drop_cons ns ND.zero j h, nodeR, take_getD ns ND.zero j h, List.map_append]
  rfl
theorem edgeR_at (ts : List TD) (nids : List Int) (ns : List ED) (j : Nat) (h : j < ns.length) : edgeR ts nids ((ns.take j).map ED.id) j (ns.drop j) = if recErr ts ((ns.take j).map ED.id) (ns.getD j ED.zero).id (ns.getD j ED.zero).key (ns.getD j ED.zero).qs (endsB nids (ns.getD j ED.zero)) = 0 then edgeR ts nids ((ns.take (j + 1)).map ED.id) (j + 1) (ns.drop (j + 1)) else some (j, recErr ts ((ns.take j).map ED.id) (ns.getD j ED.zero).id (ns.getD j ED.zero).key (ns.getD j ED.zero).qs (endsB nids (ns.getD j ED.zero))) := by
  rw [drop_cons ns ED.zero j h, edgeR, take_getD ns ED.zero j h, List.map_append]
  rfl
structure HoldsN (W : World) (ad : Addr) (x : ND) : Prop where
  lt : ad.block < W.heap.size
  spot : ad.spot = none
  c0 : W.cell? ad = some (.int .i64 x.id)
  c1 : W.cell? ⟨ad.block, ad.off + 1, none⟩ = some (.string x.lb)
  c2 : W.cell? ⟨ad.block, ad.off + 2, none⟩ = some (.slice x.A x.qs.length x.c)
structure HoldsE (W : World) (ad : Addr) (x : ED) : Prop where
  lt : ad.block < W.heap.size
  spot : ad.spot = none
  c0 : W.cell? ad = some (.int .i64 x.id)
  c1 : W.cell? ⟨ad.block, ad.off + 1, none⟩ = some (.string x.lb)
  c2 : W.cell? ⟨ad.block, ad.off + 2, none⟩ = some (.int .i64 x.f)
  c3 : W.cell? ⟨ad.block, ad.off + 3, none⟩ = some (.int .i64 x.t)
  c4 : W.cell? ⟨ad.block, ad.off + 4, none⟩ = some (.slice x.A x.qs.length x.c)
theorem HoldsN.below {W W' : World} {ad : Addr} {v : ND} (h : HoldsN W ad v) (hb : Below W.heap.size W W') : HoldsN W' ad v :=
  ⟨Nat.lt_of_lt_of_le h.lt hb.size, h.spot, (hb.cell h.lt).trans h.c0, (hb.cell (p := ⟨ad.block, ad.off + 1, none⟩) h.lt).trans h.c1, (hb.cell (p := ⟨ad.block, ad.off + 2, none⟩) h.lt).trans h.c2⟩
theorem HoldsE.below {W W' : World} {ad : Addr} {v : ED} (h : HoldsE W ad v) (hb : Below W.heap.size W W') : HoldsE W' ad v :=
  ⟨Nat.lt_of_lt_of_le h.lt hb.size, h.spot, (hb.cell h.lt).trans h.c0, (hb.cell (p := ⟨ad.block, ad.off + 1, none⟩) h.lt).trans h.c1, (hb.cell (p := ⟨ad.block, ad.off + 2, none⟩) h.lt).trans h.c2, (hb.cell (p := ⟨ad.block, ad.off + 3, none⟩) h.lt).trans h.c3, (hb.cell (p := ⟨ad.block, ad.off + 4, none⟩) h.lt).trans h.c4⟩
structure ReadsN (W : World) (A : Option Addr) (ns : List ND) : Prop where
  len : ns.length ≤ 9223372036854775807
  row : ∀ j, j < ns.length → ∃ ad, A = some ad ∧ HoldsN W (ad.add (j * 3)) (ns.getD j ND.zero)
  txt : ∀ x ∈ ns, x.lb.size ≤ 9223372036854775807
  props : ∀ x ∈ ns, ReadsQ W x.A x.qs
structure ReadsE (W : World) (A : Option Addr) (es : List ED) : Prop where
  len : es.length ≤ 9223372036854775807
  row : ∀ j, j < es.length → ∃ ad, A = some ad ∧ HoldsE W (ad.add (j * 5)) (es.getD j ED.zero)
  txt : ∀ x ∈ es, x.lb.size ≤ 9223372036854775807
  num : ∀ x ∈ es, (Lit.int .i64 x.f).wf = true ∧ (Lit.int .i64 x.t).wf = true
  props : ∀ x ∈ es, ReadsQ W x.A x.qs
theorem ReadsN.below {W W' : World} {A : Option Addr} {ps : List ND} (h : ReadsN W A ps) (hb : Below W.heap.size W W') : ReadsN W' A ps :=
  ⟨h.len, fun j hj => by
    obtain ⟨ad, e, h2⟩ := h.row j hj
    exact ⟨ad, e, h2.below hb⟩, h.txt, fun q hq => (h.props q hq).below hb⟩
theorem ReadsE.below {W W' : World} {A : Option Addr} {ps : List ED} (h : ReadsE W A ps) (hb : Below W.heap.size W W') : ReadsE W' A ps :=
  ⟨h.len, fun j hj => by
    obtain ⟨ad, e, h2⟩ := h.row j hj
    exact ⟨ad, e, h2.below hb⟩, h.txt, h.num, fun q hq => (h.props q hq).below hb⟩
theorem TypesIs.at_ {W W' : World} {B b : Nat} {l : List (TD × Nat)} (h : TypesIs W B b l) (e : ∀ k, B ≤ k → k < W.heap.size → W'.heap[k]? = W.heap[k]?) : TypesIs W' B b l :=
  ⟨ownsMap_at h.map (e b h.base h.map.lt), h.base, fun x hx => ⟨ownsMap_at (h.kinds x hx).1 (e x.2 (by have h1 := (h.kinds x hx).2; have h2 := h.base; omega) (h.kinds x hx).1.lt), (h.kinds x hx).2⟩⟩
theorem TypesIs.low {W : World} {B B' b : Nat} {l : List (TD × Nat)} (h : TypesIs W B b l) (e : B' ≤ B) : TypesIs W B' b l := ⟨h.map, Nat.le_trans e h.base, h.kinds⟩
/-- A checker's box. -/
def CBox (W : World) (b : Nat) (cs : Array Value) : Prop := W.heap[b]? = some (.cells cs 47 (0, 0))
theorem CBox.cells {W : World} {b : Nat} {cs : Array Value} (h : CBox W b cs) : ∀ j, W.cell? ⟨b, j, none⟩ = cs[j]? := fun j => by
  unfold World.cell?
  rw [h]
  rfl
theorem CBox.free {W : World} {b : Nat} {cs : Array Value} (h : CBox W b cs) : ∀ j, W.frozen? ⟨b, j, none⟩ = false := fun j => Lib.frozen_of_heap h j
theorem CBox.lt {W : World} {b : Nat} {cs : Array Value} (h : CBox W b cs) : b < W.heap.size := (Array.getElem?_eq_some_iff.1 h).1
theorem CBox.at_ {W W' : World} {b : Nat} {cs : Array Value} (h : CBox W b cs) (hk : W'.heap[b]? = W.heap[b]?) : CBox W' b cs := hk.trans h
theorem CBox.put {W : World} {b : Nat} {cs : Array Value} (h : CBox W b cs) (j : Nat) (v : Value) : CBox (W.setCell ⟨b, j, none⟩ v) b (cs.setIfInBounds j v) := heap_setCell_same W b j cs _ v h
def GBox (W : World) (b : Nat) (cs : Array Value) : Prop := W.heap[b]? = some (.cells cs 28 (0, 0))
theorem GBox.cells {W : World} {b : Nat} {cs : Array Value} (h : GBox W b cs) : ∀ j, W.cell? ⟨b, j, none⟩ = cs[j]? := fun j => by
  unfold World.cell?
  rw [h]
  rfl
def NBox (W : World) (b : Nat) (a : Array Value) : Prop := W.heap[b]? = some (.cells a 52)
theorem NBox.below {W W' : World} {b : Nat} {a : Array Value} (h : NBox W b a) (hb : Below W.heap.size W W') : NBox W' b a := (hb.block b (Array.getElem?_eq_some_iff.1 h).1).trans h
theorem NBox.cells {W : World} {b : Nat} {a : Array Value} (h : NBox W b a) (i : Nat) : W.cell? ⟨b, i, none⟩ = a[i]? := by
  unfold World.cell?
  rw [h]
  rfl
def EBox (W : World) (b : Nat) (a : Array Value) : Prop := W.heap[b]? = some (.cells a 55)
theorem EBox.below {W W' : World} {b : Nat} {a : Array Value} (h : EBox W b a) (hb : Below W.heap.size W W') : EBox W' b a := (hb.block b (Array.getElem?_eq_some_iff.1 h).1).trans h
theorem EBox.cells {W : World} {b : Nat} {a : Array Value} (h : EBox W b a) (i : Nat) : W.cell? ⟨b, i, none⟩ = a[i]? := by
  unfold World.cell?
  rw [h]
  rfl
/-- What stands fast while records are looked at. -/
structure ChkI (w : World) (br bp bc m1 m2 : Nat) (R : Array Value) (v0 v1 : Value) (W : World) : Prop where
  ne : br = w.heap.size ∧ bp = w.heap.size + 1 ∧ m1 = w.heap.size + 2 ∧ m2 = w.heap.size + 3 ∧ bc = w.heap.size + 4
  below : Below w.heap.size w W
  size : w.heap.size + 5 ≤ W.heap.size
  raw : GBox W br R
  place : PBox W bp #[.int .i64 0, .int .i64 0]
  box : CBox W bc #[v0, v1, .map (some m1), .map (some m2)]
theorem ChkI.below_ {w : World} {br bp bc m1 m2 : Nat} {R : Array Value} {v0 v1 : Value} {W W' : World} (h : ChkI w br bp bc m1 m2 R v0 v1 W) (hb : Below W.heap.size W W') : ChkI w br bp bc m1 m2 R v0 v1 W' := by
  have hs := h.size
  have hn := h.ne
  exact ⟨hn, below_then h.below hb, Nat.le_trans hs hb.size, (hb.block _ (by omega)).trans h.raw, h.place.at_ (hb.block _ (by omega)), h.box.at_ (hb.block _ (by omega))⟩
theorem ChkI.grown {w : World} {br bp bc m1 m2 : Nat} {R : Array Value} {v0 v1 : Value} {W W' : World} {m : Nat} (h : ChkI w br bp bc m1 m2 R v0 v1 W) (hg : W.grownBy W' (some m)) (hm : m = m1 ∨ m = m2) : ChkI w br bp bc m1 m2 R v0 v1 W' := by
  have hs := h.size
  have hn := h.ne
  have k : ∀ k, k < w.heap.size + 5 → k ≠ w.heap.size + 2 → k ≠ w.heap.size + 3 → W'.heap[k]? = W.heap[k]? := fun k h1 h2 h3 => hg.block k (by omega) (fun e => by have := Option.some.inj e; omega)
  exact ⟨hn, grown_kept h.below hg (by omega) (by omega), Nat.le_trans hs hg.size, (k _ (by omega) (by omega) (by omega)).trans h.raw, h.place.at_ (k _ (by omega) (by omega) (by omega)), h.box.at_ (k _ (by omega) (by omega) (by omega))⟩
theorem ChkI.set0 {w : World} {br bp bc m1 m2 : Nat} {R : Array Value} {v0 v1 v : Value} {W : World} (h : ChkI w br bp bc m1 m2 R v0 v1 W) : ChkI w br bp bc m1 m2 R v v1 (W.setCell ⟨bc, 0, none⟩ v) := by
  have hn := h.ne
  have hs := h.size
  exact ⟨hn, below_set h.below (p := ⟨bc, 0, none⟩) (by show w.heap.size ≤ bc; omega) _, by simp; omega, (heap_setCell_other _ _ _ _ (by show br ≠ bc; omega)).trans h.raw, h.place.at_ (heap_setCell_other _ _ _ _ (by show bp ≠ bc; omega)), h.box.put 0 _⟩
theorem ChkI.set1 {w : World} {br bp bc m1 m2 : Nat} {R : Array Value} {v0 v1 v : Value} {W : World} (h : ChkI w br bp bc m1 m2 R v0 v1 W) : ChkI w br bp bc m1 m2 R v0 v (W.setCell ⟨bc, 1, none⟩ v) := by
  have hn := h.ne
  have hs := h.size
  exact ⟨hn, below_set h.below (p := ⟨bc, 1, none⟩) (by show w.heap.size ≤ bc; omega) _, by simp; omega, (heap_setCell_other _ _ _ _ (by show br ≠ bc; omega)).trans h.raw, h.place.at_ (heap_setCell_other _ _ _ _ (by show bp ≠ bc; omega)), h.box.put 1 _⟩
theorem TypesIs.grown {W W' : World} {B b m : Nat} {l : List (TD × Nat)} (h : TypesIs W B b l) (hg : W.grownBy W' (some m)) (hm : m < B) : TypesIs W' B b l :=
  h.at_ (fun k h1 h2 => hg.block k h2 (fun e => by have := Option.some.inj e; omega))
theorem IdsIs.grown {W W' : World} {b m : Nat} {l : List Int} (h : IdsIs W b l) (hg : W.grownBy W' (some m)) (hm : b ≠ m) : IdsIs W' b l :=
  ownsMap_at h (hg.block b h.lt (fun e => hm (Option.some.inj e)))
end Go.Proofs.YtffifhinhemkdaaDoor
