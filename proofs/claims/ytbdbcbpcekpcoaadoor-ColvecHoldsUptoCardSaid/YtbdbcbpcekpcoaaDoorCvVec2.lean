/- A column's rows after a value more, in whatever rows it went. -/
import Derived.Test.YtbdbcbpcekpcoaaDoorCvApp
set_option linter.unusedVariables false
set_option linter.unusedSimpArgs false
namespace Go.Proofs.YtbdbcbpcekpcoaaDoor
open Go.RowKit Go.Maps

/-- The block is the old one, or a new one of its own zone. -/
def InZ (Z : Nat → Prop) (v v' : Value) : Prop := v'.ownBlock = v.ownBlock ∨ ∃ k, v'.ownBlock = some k ∧ Z k
theorem vec_step {w W : World} {F : Nat → Prop} {b : Nat} {s s' : VS} {nv bv iv dv hv nv' bv' iv' dv' hv' : Value} {m : Nat} (hV : VecAt w F b s nv bv iv dv hv m) (Zn Zb Zi Zd Zh : Nat → Prop)
    (hbx : VecB W b #[.int .i64 s'.k, .int .i64 (s'.nl.length : Int), nv', bv', iv', dv', .map (some m), hv'])
    (hn : OwnBits W 0 nv' s'.nl) (hb : OwnBits W 0 bv' s'.bl) (hi : W.ownsRow 0 2 1 iv' s'.il.length (numCells s'.il)) (hd : W.ownsRow 0 9 1 dv' s'.dl.length (textCells s'.dl)) (hh : W.ownsRow 0 2 1 hv' s'.hp.length (numCells s'.hp))
    (hm : W.ownsMap Tryd.prog 9 (plainElem Tryd.prog 3) m s'.dl.length (dictD s'.dl 0 (.map [])))
    (mn : InZ Zn nv nv') (mb : InZ Zb bv bv') (mi : InZ Zi iv iv') (md : InZ Zd dv dv') (mh : InZ Zh hv hv')
    (fresh : ∀ k, Zn k ∨ Zb k ∨ Zi k ∨ Zd k ∨ Zh k → w.heap.size ≤ k)
    (dj : ∀ k, (Zn k → ¬ Zb k ∧ ¬ Zi k ∧ ¬ Zd k ∧ ¬ Zh k) ∧ (Zb k → ¬ Zi k ∧ ¬ Zd k ∧ ¬ Zh k) ∧ (Zi k → ¬ Zd k ∧ ¬ Zh k) ∧ (Zd k → ¬ Zh k)) :
    VecAt W (orNew F w) b s' nv' bv' iv' dv' hv' m := by
  have hml := hV.known.lt
  have hbw := hV.box.lt
  have cs : ∀ {Z : Nat → Prop} {v v' : Value}, InZ Z v v' → (∀ k, Z k → w.heap.size ≤ k) → (∀ k, v.ownBlock = some k → k < w.heap.size) → ∀ k, v'.ownBlock = some k → (v.ownBlock = some k ∧ k < w.heap.size) ∨ (Z k ∧ w.heap.size ≤ k) := fun {Z v v'} h hz hl k e => by
    rcases h with h | ⟨j, h, h1⟩
    · exact .inl ⟨h ▸ e, hl k (h ▸ e)⟩
    · rw [h] at e; cases e; exact .inr ⟨h1, hz _ h1⟩
  have on := cs mn (fun k h => fresh k (.inl h)) (fun k e => own_lt hV.nulls e)
  have ob := cs mb (fun k h => fresh k (.inr (.inl h))) (fun k e => own_lt hV.bools e)
  have oi := cs mi (fun k h => fresh k (.inr (.inr (.inl h)))) (fun k e => own_lt hV.ints e)
  have od := cs md (fun k h => fresh k (.inr (.inr (.inr (.inl h))))) (fun k e => own_lt hV.dict e)
  have oh := cs mh (fun k h => fresh k (.inr (.inr (.inr (.inr h))))) (fun k e => own_lt hV.heap e)
  have ff : ∀ {Z : Nat → Prop} {v : Value}, (∀ k, v.ownBlock = some k → F k) → ∀ k, ((v.ownBlock = some k ∧ k < w.heap.size) ∨ (Z k ∧ w.heap.size ≤ k)) → orNew F w k := fun {Z v} h k e => by
    rcases e with e | e
    · exact .inl (h k e.1)
    · exact .inr e.2
  have ap : ∀ {Z1 Z2 : Nat → Prop} {u v u' v' : Value}, (∀ k, u'.ownBlock = some k → (u.ownBlock = some k ∧ k < w.heap.size) ∨ (Z1 k ∧ w.heap.size ≤ k)) → (∀ k, v'.ownBlock = some k → (v.ownBlock = some k ∧ k < w.heap.size) ∨ (Z2 k ∧ w.heap.size ≤ k)) →
      (∀ k, u.ownBlock = some k → v.ownBlock ≠ some k) → (∀ k, Z1 k → ¬ Z2 k) → ∀ k, u'.ownBlock = some k → v'.ownBlock ≠ some k := fun hu hv h1 h2 k e e' => by
    rcases hu k e with a | a <;> rcases hv k e' with c | c
    · exact h1 k a.1 c.1
    · omega
    · omega
    · exact h2 k a.1 c.1
  have bl : ∀ {Z : Nat → Prop} {v v' : Value} {q : Nat}, q < w.heap.size → (∀ k, v'.ownBlock = some k → (v.ownBlock = some k ∧ k < w.heap.size) ∨ (Z k ∧ w.heap.size ≤ k)) → (∀ k, v.ownBlock = some k → k ≠ q) → ∀ k, v'.ownBlock = some k → k ≠ q := fun hq hv h k e => by
    rcases hv k e with a | a
    · exact h k a.1
    · omega
  exact ⟨hbx, hn, hb, hi, hd, hh, hm, .inl hV.fb, .inl hV.fm, fun k e => ff hV.fn k (on k e), fun k e => ff hV.fbl k (ob k e), fun k e => ff hV.fi k (oi k e), fun k e => ff hV.fd k (od k e), fun k e => ff hV.fh k (oh k e),
    fun k e => ⟨ap on ob (fun k e => (hV.nb k e).1) (fun k z => ((dj k).1 z).1) k e, ap on oi (fun k e => (hV.nb k e).2.1) (fun k z => ((dj k).1 z).2.1) k e, ap on od (fun k e => (hV.nb k e).2.2.1) (fun k z => ((dj k).1 z).2.2.1) k e, ap on oh (fun k e => (hV.nb k e).2.2.2.1) (fun k z => ((dj k).1 z).2.2.2) k e, bl hbw on (fun k e => (hV.nb k e).2.2.2.2.1) k e, bl hml on (fun k e => (hV.nb k e).2.2.2.2.2) k e⟩,
    fun k e => ⟨ap ob oi (fun k e => (hV.bb k e).1) (fun k z => ((dj k).2.1 z).1) k e, ap ob od (fun k e => (hV.bb k e).2.1) (fun k z => ((dj k).2.1 z).2.1) k e, ap ob oh (fun k e => (hV.bb k e).2.2.1) (fun k z => ((dj k).2.1 z).2.2) k e, bl hbw ob (fun k e => (hV.bb k e).2.2.2.1) k e, bl hml ob (fun k e => (hV.bb k e).2.2.2.2) k e⟩,
    fun k e => ⟨ap oi od (fun k e => (hV.ib k e).1) (fun k z => ((dj k).2.2.1 z).1) k e, ap oi oh (fun k e => (hV.ib k e).2.1) (fun k z => ((dj k).2.2.1 z).2) k e, bl hbw oi (fun k e => (hV.ib k e).2.2.1) k e, bl hml oi (fun k e => (hV.ib k e).2.2.2) k e⟩,
    fun k e => ⟨ap od oh (fun k e => (hV.db k e).1) (fun k z => (dj k).2.2.2 z) k e, bl hbw od (fun k e => (hV.db k e).2.1) k e, bl hml od (fun k e => (hV.db k e).2.2) k e⟩,
    fun k e => ⟨bl hbw oh (fun k e => (hV.hb k e).1) k e, bl hml oh (fun k e => (hV.hb k e).2) k e⟩, hV.bm⟩
/-- What is left of a row that nobody wrote. -/
theorem left_n {w W : World} {F G : Nat → Prop} {b : Nat} {s : VS} {nv bv iv dv hv : Value} {m : Nat} (hV : VecAt w F b s nv bv iv dv hv m) (hK : KeptBut G w W) (h : ∀ k, nv.ownBlock = some k → ¬ G k) : OwnBits W 0 nv s.nl := own_at hV.nulls (fun k hk e => hK.block k hk (h k e))
theorem left_b {w W : World} {F G : Nat → Prop} {b : Nat} {s : VS} {nv bv iv dv hv : Value} {m : Nat} (hV : VecAt w F b s nv bv iv dv hv m) (hK : KeptBut G w W) (h : ∀ k, bv.ownBlock = some k → ¬ G k) : OwnBits W 0 bv s.bl := own_at hV.bools (fun k hk e => hK.block k hk (h k e))
theorem left_i {w W : World} {F G : Nat → Prop} {b : Nat} {s : VS} {nv bv iv dv hv : Value} {m : Nat} (hV : VecAt w F b s nv bv iv dv hv m) (hK : KeptBut G w W) (h : ∀ k, iv.ownBlock = some k → ¬ G k) : W.ownsRow 0 2 1 iv s.il.length (numCells s.il) := own_at hV.ints (fun k hk e => hK.block k hk (h k e))
theorem left_d {w W : World} {F G : Nat → Prop} {b : Nat} {s : VS} {nv bv iv dv hv : Value} {m : Nat} (hV : VecAt w F b s nv bv iv dv hv m) (hK : KeptBut G w W) (h : ∀ k, dv.ownBlock = some k → ¬ G k) : W.ownsRow 0 9 1 dv s.dl.length (textCells s.dl) := own_at hV.dict (fun k hk e => hK.block k hk (h k e))
theorem left_h {w W : World} {F G : Nat → Prop} {b : Nat} {s : VS} {nv bv iv dv hv : Value} {m : Nat} (hV : VecAt w F b s nv bv iv dv hv m) (hK : KeptBut G w W) (h : ∀ k, hv.ownBlock = some k → ¬ G k) : W.ownsRow 0 2 1 hv s.hp.length (numCells s.hp) := own_at hV.heap (fun k hk e => hK.block k hk (h k e))
theorem left_m {w W : World} {F G : Nat → Prop} {b : Nat} {s : VS} {nv bv iv dv hv : Value} {m : Nat} (hV : VecAt w F b s nv bv iv dv hv m) (hK : KeptBut G w W) (h : ¬ G m) : W.ownsMap Tryd.prog 9 (plainElem Tryd.prog 3) m s.dl.length (dictD s.dl 0 (.map [])) := map_at hV.known (hK.block m hV.known.lt h)
end Go.Proofs.YtbdbcbpcekpcoaaDoor
