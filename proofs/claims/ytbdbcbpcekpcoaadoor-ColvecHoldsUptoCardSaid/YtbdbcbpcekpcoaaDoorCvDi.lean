/- The texts of ColvecDicts: a column of texts beside a row of them; no program's walk stands here. -/
import Derived.Test.YtbdbcbpcekpcoaaDoorCvDk
import Derived.Test.YtbdbcbpcekpcoaaDoorCvHead
set_option linter.unusedVariables false
set_option linter.unusedSimpArgs false
namespace Go.Proofs.YtbdbcbpcekpcoaaDoor
open Go.RowKit Go.Maps

/-- A text, as a value. -/
def tv (s : ByteArray) : V5 := ⟨3, 0, false, s, none, [], 0⟩
def stT (l : List ByteArray) (j : Nat) : VS := stepsL 3 ((l.take j).map tv)
theorem stT_succ (l : List ByteArray) (j : Nat) (h : j < l.length) : stT l (j + 1) = stepV (stT l j) (tv (l.getD j ByteArray.empty)) := by
  have e := steps_snoc 3 (l.map tv) j (by simpa using h)
  rw [← List.map_take, ← List.map_take] at e
  rw [stT, stT, e]
  congr 1
  simp [List.getD, h]
theorem stT_all (l : List ByteArray) (j : Nat) : (stT l j).k = 3 ∧ WF (stT l j) ∧ (stT l j).nl.length ≤ j := by
  obtain ⟨h1, h2, h3⟩ := steps_all 3 (by decide) ((l.take j).map tv) (VS.new 3) rfl (wf_new 3 (by decide))
  refine ⟨h1, h2, Nat.le_trans h3 ?_⟩
  rw [List.length_map, List.length_take]
  have : (VS.new 3).nl.length = 0 := rfl
  omega
def anyT (D : List ByteArray) (s : ByteArray) : Bool := D.any fun u => decide (u = s)
theorem any_take (D : List ByteArray) (s : ByteArray) (q : Nat) (h : q < D.length) : anyT (D.take (q + 1)) s = (anyT (D.take q) s || decide (D.getD q ByteArray.empty = s)) := by
  rw [anyT, anyT, List.take_add_one, List.getElem?_eq_getElem h, Option.toList_some, List.any_append, List.any_cons, List.any_nil, Bool.or_false, List.getD_eq_getElem?_getD, List.getElem?_eq_getElem h]
  rfl
theorem ba_ext {s t : ByteArray} (h : s.data.toList = t.data.toList) : s = t := by
  obtain ⟨⟨a⟩⟩ := s
  obtain ⟨⟨b⟩⟩ := t
  simp only at h
  rw [h]
theorem any_keys (D : List ByteArray) (s : ByteArray) : anyT D s = decide (s.data.toList ∈ keysL D) := by
  rw [Bool.eq_iff_iff, anyT, List.any_eq_true, decide_eq_true_iff, keysL, List.mem_map]
  constructor
  · rintro ⟨u, hu, e⟩
    exact ⟨u, hu, by rw [of_decide_eq_true e]⟩
  · rintro ⟨u, hu, e⟩
    exact ⟨u, hu, decide_eq_true (ba_ext e)⟩
theorem dl_step (S : VS) (s : ByteArray) (hk : S.k = 3) : (stepV S (tv s)).dl = if (errV 3 (tv s) != 0 || anyT S.dl s) = true then S.dl else S.dl ++ [s] := by
  rw [stepV, hk, errV, any_keys]
  cases fitsV 3 (tv s) with
  | false => rfl
  | true =>
    rw [if_pos rfl, if_pos rfl, pushV, if_neg (by omega), if_neg (by omega)]
    simp only [tv, if_true]
    by_cases h : s.data.toList ∈ keysL S.dl
    · simp [h]
    · simp [h]
/-- A column, and a row of texts apart from it. -/
structure DI (w wr : World) (b : Nat) (S : VS) (D : List ByteArray) (WA : Option Addr) (wc : Nat) : Prop where
  own : wr.ownsRow 0 9 1 (.slice WA D.length wc) D.length (textCells D)
  vec : ∃ F : Nat → Prop, VecIs wr F b S ∧ (∀ i, F i → w.heap.size ≤ i) ∧ ∀ a, WA = some a → ¬ F a.block ∧ w.heap.size ≤ a.block
  bel : Below w.heap.size w wr
theorem DI.is {w wr : World} {b : Nat} {S : VS} {D : List ByteArray} {WA : Option Addr} {wc : Nat} (h : DI w wr b S D WA wc) : VecIs wr (fun _ => True) b S := by
  obtain ⟨F, hV, _⟩ := h.vec
  exact vecIs_mono hV (fun _ _ => trivial)
theorem DI.reads {w wr : World} {b : Nat} {S : VS} {D : List ByteArray} {WA : Option Addr} {wc : Nat} (h : DI w wr b S D WA wc) : ReadsT wr WA D := by
  obtain ⟨A, c, e, hr⟩ := own_texts h.own
  cases e
  exact hr
theorem DI.below {w wr wx : World} {b : Nat} {S : VS} {D : List ByteArray} {WA : Option Addr} {wc : Nat} (h : DI w wr b S D WA wc) (hb : Below wr.heap.size wr wx) : DI w wx b S D WA wc := by
  obtain ⟨F, hV, hF, hA⟩ := h.vec
  exact ⟨own_at h.own (fun k hk _ => hb.block k hk), ⟨F, vecIs_below hV hb, hF, hA⟩, below_then h.bel hb⟩
theorem DI.start {w W1 W2 : World} {b : Nat} {S : VS} (hb : Below w.heap.size w W1) (hV : VecIs W2 (fun j => W1.heap.size ≤ j) b S) (h2 : Below W1.heap.size W1 W2) : DI w W2 b S [] none 0 :=
  ⟨World.ownsRow_nil W2 0 9 1, ⟨_, hV, fun i hi => Nat.le_trans hb.size hi, fun a e => by cases e⟩, below_then hb h2⟩
theorem DI.app {w wr : World} {b : Nat} {S : VS} {D : List ByteArray} {WA : Option Addr} {wc : Nat} (h : DI w wr b S D WA wc) (s : ByteArray) (hk : S.k = 3) (hwf : WF S) (hn : S.nl.length ≤ 8796093022207) :
    Calls Tryd.prog 12 #[.pointer (some ⟨b, 0, none⟩), .agg #[.int .i64 3, .bool false, .int .i64 0, .string s, .slice none 0 0]] wr fun e w' => e = .returned (.int .i64 (errV 3 (tv s))) ∧ DI w w' b (stepV S (tv s)) D WA wc := by
  obtain ⟨F, hV, hF, hA⟩ := h.vec
  refine (appOk_any 3 (by decide) (tv s) F b S wr hV hk hwf hn ⟨by simp [tv], fun h => absurd h (by simp [tv])⟩).mono ?_
  rintro e w' ⟨he, hV', hK⟩
  have hs := h.bel.size
  refine ⟨he, own_at h.own (fun k hl e => ?_), ⟨_, hV', fun i hi => hi.elim (hF i) (fun g => Nat.le_trans hs g), fun a e => ⟨fun g => ?_, (hA a e).2⟩⟩, h.bel.trans (hK.below hF hs)⟩
  · cases WA with
    | none => cases e
    | some a => cases e; exact hK.block _ hl (hA a rfl).1
  · subst e
    have := own_lt h.own (k := a.block) rfl
    exact g.elim (hA a rfl).1 (fun g => by omega)
theorem DI.grow {w wr w' : World} {b : Nat} {S : VS} {D : List ByteArray} {WA : Option Addr} {wc : Nat} (h : DI w wr b S D WA wc) (s : ByteArray) (v' : Value)
    (h1 : w'.ownsRow 0 9 1 v' (D.length + 1) (textCells D ++ [.string s])) (h2 : (wr.alloc (.cells #[.string s] 9)).grownBy w' (Value.slice WA D.length wc).ownBlock)
    (h3 : v'.ownBlock = (Value.slice WA D.length wc).ownBlock ∨ v'.ownBlock = some (wr.alloc (.cells #[.string s] 9)).heap.size) :
    ∃ A c, v' = .slice A (D ++ [s]).length c ∧ DI w w' b S (D ++ [s]) A c := by
  obtain ⟨F, hV, hF, hA⟩ := h.vec
  have hs := h.bel.size
  have hsz : (wr.alloc (.cells #[.string s] 9)).heap.size = wr.heap.size + 1 := by simp
  have hl1 : (D ++ [s]).length = D.length + 1 := by simp
  have h1' : w'.ownsRow 0 9 1 v' (D ++ [s]).length (textCells (D ++ [s])) := by
    rw [textCells_snoc, hl1]
    exact h1
  obtain ⟨A, c, rfl, _⟩ := row_shape h1'
  refine ⟨A, c, rfl, h1', ⟨fun k => F k ∧ k < wr.heap.size, ?_, fun i hi => hF i hi.1, ?_⟩, ?_⟩
  · have hV2 : VecIs wr (fun k => F k ∧ k < wr.heap.size) b S := by
      obtain ⟨nv, bv, iv, dv, hv, m, hv0⟩ := hV
      exact ⟨nv, bv, iv, dv, hv, m, { hv0 with fb := ⟨hv0.fb, hv0.box.lt⟩, fm := ⟨hv0.fm, hv0.known.lt⟩, fn := fun k e => ⟨hv0.fn k e, own_lt hv0.nulls e⟩, fbl := fun k e => ⟨hv0.fbl k e, own_lt hv0.bools e⟩, fi := fun k e => ⟨hv0.fi k e, own_lt hv0.ints e⟩, fd := fun k e => ⟨hv0.fd k e, own_lt hv0.dict e⟩, fh := fun k e => ⟨hv0.fh k e, own_lt hv0.heap e⟩ }⟩
    refine vecIs_at hV2 (fun k hk hf => ?_)
    refine (h2.block k (by rw [hsz]; omega) (fun e => ?_)).trans (heap_alloc_old wr _ hk)
    cases WA with
    | none => cases e
    | some a => cases e; exact (hA a rfl).1 hf.1
  · intro a e
    subst e
    rcases h3 with e | e
    · cases WA with
      | none => cases e
      | some a' =>
        have e : some a.block = some a'.block := e
        cases a; cases a'
        simp only [Option.some.injEq] at e
        subst e
        exact ⟨fun g => (hA _ rfl).1 g.1, (hA _ rfl).2⟩
    · have e : some a.block = some _ := e
      rw [hsz] at e
      simp only [Option.some.injEq] at e
      exact ⟨fun g => by omega, by omega⟩
  · have hgr : Below w.heap.size (wr.alloc (.cells #[.string s] 9)) w' := by
      refine ⟨h2.os, h2.tape, h2.output, h2.size, fun k hk => h2.block k (by rw [hsz]; omega) (fun e => ?_)⟩
      cases WA with
      | none => cases e
      | some a => cases e; have := (hA a rfl).2; omega
    exact (below_more h.bel _).trans hgr
end Go.Proofs.YtbdbcbpcekpcoaaDoor
