/- Own rows of ints; rows of bytes that came in; columns gathered, whole. -/
import Derived.Test.YtbdbcbpcekpcoaaDoorCvGa
import Derived.Test.YtbdbcbpcekpcoaaDoorCvCol
set_option linter.unusedVariables false
set_option linter.unusedSimpArgs false
namespace Go.Proofs.YtbdbcbpcekpcoaaDoor
open Go.RowKit Go.Maps

/-- An own row of ints. -/
def OwnI (W : World) (B : Nat) (v : Value) (xs : List Int) : Prop := W.ownsRow B 3 1 v xs.length (numCells xs)
theorem ownI_nil (W : World) (B : Nat) : OwnI W B (.slice none 0 0) [] := World.ownsRow_nil W B _ 1
theorem OwnI.at_ {W W' : World} {B : Nat} {v : Value} {xs : List Int} (h : OwnI W B v xs) (hk : ∀ k, k < W.heap.size → v.ownBlock = some k → W'.heap[k]? = W.heap[k]?) : OwnI W' B v xs := own_at h hk
theorem OwnI.grown {W W' : World} {B : Nat} {v : Value} {xs : List Int} {r : Option Nat} (h : OwnI W B v xs) (hg : W.grownBy W' r) (hne : ∀ k, v.ownBlock = some k → some k ≠ r) : OwnI W' B v xs := h.at_ (fun k hk e => hg.block k hk (hne k e))
theorem OwnI.below {W W' : World} {B : Nat} {v : Value} {xs : List Int} (h : OwnI W B v xs) (hb : Below W.heap.size W W') : OwnI W' B v xs := h.at_ (fun k hk _ => hb.block k hk)
theorem OwnI.reads {W : World} {B : Nat} {v : Value} {xs : List Int} (h : OwnI W B v xs) : ∃ A c, v = .slice A xs.length c ∧ ReadsI W A xs := by
  obtain ⟨A, c, rfl, hl⟩ := row_shape h
  refine ⟨A, c, rfl, hl, fun hp => ?_⟩
  have h' := h
  rcases h with ⟨hl, ⟨e, h0⟩ | ⟨g, cap, cur, e, hg, hh, hn, hm, hs, htk⟩⟩
  · omega
  · cases e
    refine ⟨_, rfl, fun j hj => ?_⟩
    rw [add_0 g j, World.ownsRow.cellAt h' j (by omega)]
    simp [numCells, List.getD, hj]
theorem append_intO {W : World} {o : Oper} {a : Act} {K : Act → World → Prop} {Q : Exit → Act → World → Prop} (s x : Operand)
    (ho : o.op = .call { callee := .builtin .append, args := #[s, x], argTypes := #[41, 41] }) (B : Nat)
    (v : Value) (xs : List Int) (hs : a.eval s = v) (hown : OwnI W B v xs) (hB : B ≤ W.heap.size) (b c : Nat) (y : Int) (hx : a.eval x = .slice (some ⟨b, 0, none⟩) 1 c) (hc : W.cell? ⟨b, 0, none⟩ = some (.int .i64 y))
    (hn : xs.length ≤ 1000000000000)
    (h : ∀ v' w', OwnI w' B v' (xs ++ [y]) → W.grownBy w' v.ownBlock → (v'.ownBlock = v.ownBlock ∨ v'.ownBlock = some W.heap.size) → K (a.put o.dst v') w') : o.wp Tryd.prog a W K Q := by
  obtain ⟨i0, hi, hz0, hz1, hz2⟩ := info_parts info_int
  obtain ⟨v', w', hrun, h2, h3, _, h5⟩ := run_append_own_at (P := Tryd.prog) W B 41 o.type 3 i0 (.int .i64 0) 1 8 Tryd.underlying41 hi hz0 hz1 hz2 rfl (by decide) v xs.length (numCells xs) hown ⟨b, 0, none⟩ 1 c [.int .i64 y] rfl (fun j u hj => by
    match j, hj with
    | 0, hj => simp at hj; subst hj; rw [add_0]; exact hc) (by intro u hu; simp at hu; subst hu; rfl) (by unfold maxLen; omega) (by omega) hB
  unfold Oper.wp execOp
  simp only [ho, resolve, invoke, builtin, Sem.run_bind, Sem.run_pure, Result.andThen_ok, List.map_toArray, List.map_cons, List.map_nil, hs, hx, hrun]
  exact h v' w' (by unfold OwnI; rw [numCells_snoc, List.length_append]; exact h2) h3 h5
theorem append_int1 {W : World} {ops : Array Oper} {rest : List Oper} {o : Oper} {a : Act} {Q : Exit → Act → World → Prop} (hgd : o.guard = none) (s x : Operand)
    (ho : o.op = .call { callee := .builtin .append, args := #[s, x], argTypes := #[41, 41] }) (B : Nat)
    (v : Value) (xs : List Int) (hs : a.eval s = v) (y : Int) (hown : OwnI (W.alloc (.cells #[.int .i64 y] 3)) B v xs) (hB : B ≤ W.heap.size) (hx : a.eval x = .slice (some ⟨W.heap.size, 0, none⟩) 1 1)
    (hn : xs.length ≤ 1000000000000)
    (h : ∀ v' w', OwnI w' B v' (xs ++ [y]) → (W.alloc (.cells #[.int .i64 y] 3)).grownBy w' v.ownBlock → (v'.ownBlock = v.ownBlock ∨ v'.ownBlock = some (W.heap.size + 1)) → wpList Tryd.prog ops Q rest (a.put o.dst v') w') :
    wpList Tryd.prog ops Q (o :: rest) a (W.alloc (.cells #[.int .i64 y] 3)) := by
  refine wpList_plain hgd fun K' hK' => ?_
  refine append_intO s x ho B v xs hs hown (by simp; omega) W.heap.size 1 y hx ?_ hn (fun v' w' h1 h2 h3 => hK' _ _ (h v' w' h1 h2 (by simpa using h3)))
  unfold World.cell?
  rw [heap_alloc_new W _]
  rfl
/-- Bytes that came in are read. -/
def ReadsB (w : World) (A : Option Addr) (p : List Int) : Prop :=
  p.length ≤ 9223372036854775807 ∧ (0 < p.length → ∃ ad, A = some ad ∧ ∀ j, j < p.length → w.cell? (ad.add j) = some (.int .u8 (p.getD j 0)))
theorem ReadsB.at_ {w : World} {A : Option Addr} {p : List Int} (h : ReadsB w A p) (i : Nat) (hi : i < p.length) : ∃ ad, A = some ad ∧ w.cell? (ad.add i) = some (.int .u8 (p.getD i 0)) := by
  obtain ⟨ad, e, hc⟩ := h.2 (by omega)
  exact ⟨ad, e, hc _ hi⟩
theorem ReadsB.below {w w1 : World} {A : Option Addr} {p : List Int} (h : ReadsB w A p) (hb : Below w.heap.size w w1) : ReadsB w1 A p :=
  ⟨h.1, fun hn => by
    obtain ⟨ad, e, hc⟩ := h.2 hn
    exact ⟨ad, e, fun j hj => (hb.cell (World.block_lt_of_cell? w _ (hc j hj))).trans (hc j hj)⟩⟩
theorem ColOk.gather {W : World} {k : Int} {b : Nat} {vs : List V5} (h : ColOk W k b vs) (hk : 1 ≤ k ∧ k ≤ 6) (hN : vs.length ≤ 100000000000) (A : Option Addr) (pl : List Int) (c : Nat) (hr : ReadsI W A pl) (hin : ∀ i ∈ pl, 0 ≤ i ∧ i < (vs.length : Int)) (hpl : pl.length ≤ 100000000000) :
    Calls Tryd.prog 14 #[.pointer (some ⟨b, 0, none⟩), .slice A pl.length c] W fun e w' => ∃ bx us, e = .returned (.tuple #[.pointer (some ⟨bx, 0, none⟩), .int .i64 0]) ∧ EqR us (pl.map fun i => vs.getD i.toNat V5.zero) ∧ ColOk w' k bx us ∧ Below W.heap.size W w' := by
  refine (gather_ok k hk _ b (ofL k vs) vs W h.vec (rep_ofL k hk _ vs rfl h.fits) (wf_ofL k hk vs h.fits) h.fits h.num hN A pl c hr hin hpl).mono ?_
  rintro e w' ⟨us, he, hq, hV, hf, hn, hb⟩
  exact ⟨_, us, he, hq, ⟨vecIs_mono hV (fun _ _ => trivial), hf, hn⟩, hb⟩
theorem ColOk.len {W : World} {k : Int} {b : Nat} {vs : List V5} (h : ColOk W k b vs) : Calls Tryd.prog 18 #[.pointer (some ⟨b, 0, none⟩)] W fun e w' => e = .returned (.int .i64 (vs.length : Int)) ∧ w' = W := by
  have h1 := len_any _ b _ W h.vec
  rw [ofL_nl, List.length_map] at h1
  exact h1
theorem eqR_symm {us vs : List V5} (h : EqR us vs) : EqR vs us := ⟨h.1.symm, fun i hi => by
  obtain ⟨a1, a2, a3, a4, a5⟩ := h.2 i (by have := h.1; omega)
  exact ⟨a1.symm, a2.symm, a3.symm, a4.symm, a5.symm⟩⟩
theorem map_getD {α : Type} (f : Int → α) (pl : List Int) (d : α) (i : Nat) (hi : i < pl.length) : (pl.map f).getD i d = f (pl.getD i 0) := by
  simp [List.getD, hi]
/-- What is gathered of what was gathered is gathered of the places' places. -/
theorem eqR_twice {vs ys zs ws : List V5} {p q both : List Int} (hy : EqR ys (p.map fun i => vs.getD i.toNat V5.zero)) (hz : EqR zs (q.map fun i => ys.getD i.toNat V5.zero)) (hw : EqR ws (both.map fun i => vs.getD i.toNat V5.zero))
    (hl : both.length = q.length) (hb : ∀ i, i < q.length → 0 ≤ q.getD i 0 ∧ q.getD i 0 < (p.length : Int) ∧ both.getD i 0 = p.getD (q.getD i 0).toNat 0) : EqR zs ws := by
  refine eqR_trans hz (eqR_trans ?_ (eqR_symm hw))
  refine ⟨by rw [List.length_map, List.length_map, hl], fun i hi => ?_⟩
  rw [List.length_map] at hi
  obtain ⟨h0, h1, h2⟩ := hb i (by omega)
  rw [map_getD _ _ _ _ (by omega), map_getD _ _ _ _ hi, h2]
  have h3 := hy.2 (q.getD i 0).toNat (by rw [List.length_map]; omega)
  rw [map_getD _ _ _ _ (by omega)] at h3
  exact h3
theorem eqR_all {vs xs : List V5} {pl : List Int} (hl : pl.length = vs.length) (hp : ∀ i, i < pl.length → pl.getD i 0 = (i : Int)) (hx : EqR xs (pl.map fun i => vs.getD i.toNat V5.zero)) : EqR xs vs := by
  refine eqR_trans hx ⟨by rw [List.length_map, hl], fun i hi => ?_⟩
  rw [map_getD _ _ _ _ (by omega), hp i (by omega)]
  exact ⟨rfl, rfl, rfl, rfl, rfl⟩
end Go.Proofs.YtbdbcbpcekpcoaaDoor
