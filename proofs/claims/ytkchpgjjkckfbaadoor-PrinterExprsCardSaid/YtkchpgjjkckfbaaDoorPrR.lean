/- The document's writer: its bytes, how deep it is, whether something is not right; say, names, down. -/
import Derived.Test.YtkchpgjjkckfbaaDoorPrP
import Derived.Test.YtkchpgjjkckfbaaDoorPrNm
import Derived.Test.YtkchpgjjkckfbaaDoorLxRKey
import Derived.Test.YtkchpgjjkckfbaaDoorBRow
set_option linter.unusedVariables false
set_option linter.unusedSimpArgs false
namespace Go.Proofs.YtkchpgjjkckfbaaDoor
open Go.RowKit Go.Shelf

abbrev TW : TypeId := 57
/-- A writer in block b. -/
def RW (B b : Nat) (bs : List UInt8) (d : Int) (fl : Bool) (w : World) : Prop :=
  B ≤ b ∧ ∃ v, w.heap[b]? = some (.cells #[v, .int .i64 d, .bool fl] TW (0, 0)) ∧ w.ownsRow B 5 1 v bs.length (Lib.byteCells bs) ∧ v.ownBlock ≠ some b
section
variable {B b : Nat} {bs : List UInt8} {d : Int} {fl : Bool} {w : World}
theorem RW.lt (h : RW B b bs d fl w) : b < w.heap.size := by
  obtain ⟨_, v, hb, _⟩ := h
  exact (Array.getElem?_eq_some_iff.1 hb).1
theorem RW.cells (h : RW B b bs d fl w) : w.cell? ⟨b, 1, none⟩ = some (.int .i64 d) ∧ w.cell? ⟨b, 2, none⟩ = some (.bool fl) := by
  obtain ⟨_, v, hb, _⟩ := h
  exact ⟨by rw [Lib.cell_of_heap hb]; rfl, by rw [Lib.cell_of_heap hb]; rfl⟩
theorem RW.free (h : RW B b bs d fl w) (j : Nat) : w.frozen? ⟨b, j, none⟩ = false := by
  obtain ⟨_, v, hb, _⟩ := h
  exact Lib.frozen_of_heap hb j
theorem RW.kept {w' : World} (h : RW B b bs d fl w) (hk : ∀ k, k < w.heap.size → w'.heap[k]? = w.heap[k]?) : RW B b bs d fl w' := by
  have hlt := h.lt
  obtain ⟨hB, v, hbk, hown, hne⟩ := h
  refine ⟨hB, v, (hk b hlt).trans hbk, ⟨hown.1, ?_⟩, hne⟩
  rcases hown.2 with hn | ⟨g, cap, cur, rfl, hg, hgg, rest⟩
  · exact .inl hn
  · exact .inr ⟨g, cap, cur, rfl, hg, (hk g (Array.getElem?_eq_some_iff.1 hgg).1).trans hgg, rest⟩
theorem RW.below {w' : World} (h : RW B b bs d fl w) (hb : Below w.heap.size w w') : RW B b bs d fl w' := h.kept hb.block
theorem RW.alloc (h : RW B b bs d fl w) (o : Obj) : RW B b bs d fl (w.alloc o) := h.kept fun k hk => Lib.alloc_old w o k hk
theorem rset_heap {T : TypeId} {cs : Array Value} {fr : Nat × Nat} {j : Nat} (hb : w.heap[b]? = some (.cells cs T fr)) (u : Value) : (w.setCell ⟨b, j, none⟩ u).heap[b]? = some (.cells (cs.setIfInBounds j u) T fr) := by
  simp [World.setCell, Array.getElem?_modify, hb]
theorem RW.deep (h : RW B b bs d fl w) (d' : Int) : RW B b bs d' fl (w.setCell ⟨b, 1, none⟩ (.int .i64 d')) := by
  obtain ⟨hB, v, hb, hown, hne⟩ := h
  refine ⟨hB, v, by rw [rset_heap hb]; rfl, ?_, hne⟩
  exact hown.kept (row := some b) ⟨rfl, rfl, rfl, by simp [World.setCell], fun k _ hk => Below.heap_setCell _ _ _ _ (fun e => hk (by simp [e]))⟩ (Or.inr hne)
theorem RW.bad (h : RW B b bs d fl w) (q : Bool) : RW B b bs d q (w.setCell ⟨b, 2, none⟩ (.bool q)) := by
  obtain ⟨hB, v, hb, hown, hne⟩ := h
  refine ⟨hB, v, by rw [rset_heap hb]; rfl, ?_, hne⟩
  exact hown.kept (row := some b) ⟨rfl, rfl, rfl, by simp [World.setCell], fun k _ hk => Below.heap_setCell _ _ _ _ (fun e => hk (by simp [e]))⟩ (Or.inr hne)
end
theorem own_ne_block {w : World} {B : Nat} {e T : TypeId} {v : Value} {n : Nat} {xs : List Value} {b : Nat} {cs : Array Value} {fr : Nat × Nat} (hown : w.ownsRow B e 1 v n xs) (hb : w.heap[b]? = some (.cells cs T fr)) (hTe : T ≠ e) : v.ownBlock ≠ some b := Lib.ownBlock_ne hown hb hTe
/-- The document's writer, on its way. -/
def RS (w0 : World) (b : Nat) (T : List UInt8) (d : Int) (fl : Bool) (W : World) : Prop :=
  ∃ bs, RW w0.heap.size b bs d fl W ∧ bs.length ≤ 140737488355328 ∧ (fl = false → CutT T bs) ∧ Below w0.heap.size w0 W
/-- What stands while the document's writer writes: all blocks but its own, and rows of bytes. -/
abbrev KeptR (b : Nat) (w w' : World) : Prop := Lib.OthersKept 5 (some b) w w'
section
variable {w0 : World} {b : Nat} {T : List UInt8} {d : Int} {fl : Bool} {W : World}
theorem RS.base (h : RS w0 b T d fl W) : Below w0.heap.size w0 W := by obtain ⟨_, _, _, _, hb⟩ := h; exact hb
theorem RS.alloc (h : RS w0 b T d fl W) (o : Obj) : RS w0 b T d fl (W.alloc o) := by
  obtain ⟨bs, hi, hl, hc, hb⟩ := h
  exact ⟨bs, hi.alloc o, hl, hc, below_more hb o⟩
theorem RS.below {W' : World} (h : RS w0 b T d fl W) (hb : Below W.heap.size W W') : RS w0 b T d fl W' := by
  obtain ⟨bs, hi, hl, hc, hb0⟩ := h
  exact ⟨bs, hi.below hb, hl, hc, below_then hb0 hb⟩
theorem RS.cells (h : RS w0 b T d fl W) : W.cell? ⟨b, 1, none⟩ = some (.int .i64 d) ∧ W.cell? ⟨b, 2, none⟩ = some (.bool fl) := by obtain ⟨_, hi, _⟩ := h; exact hi.cells
theorem RS.free (h : RS w0 b T d fl W) (j : Nat) : W.frozen? ⟨b, j, none⟩ = false := by obtain ⟨_, hi, _⟩ := h; exact hi.free j
theorem RS.ge (h : RS w0 b T d fl W) : w0.heap.size ≤ b := by obtain ⟨_, hi, _⟩ := h; exact hi.1
theorem RS.deep (h : RS w0 b T d fl W) (d' : Int) : RS w0 b T d' fl (W.setCell ⟨b, 1, none⟩ (.int .i64 d')) := by
  have hge := h.ge
  obtain ⟨bs, hi, hl, hc, hb⟩ := h
  exact ⟨bs, hi.deep d', hl, hc, hb.setCell (p := ⟨b, 1, none⟩) hge _⟩
theorem RS.bad (h : RS w0 b T d fl W) (q : Bool) (hq : q = false → fl = false) : RS w0 b T d q (W.setCell ⟨b, 2, none⟩ (.bool q)) := by
  have hge := h.ge
  obtain ⟨bs, hi, hl, hc, hb⟩ := h
  exact ⟨bs, hi.bad q, hl, fun e => hc (hq e), hb.setCell (p := ⟨b, 2, none⟩) hge _⟩
theorem RS.any (h : RS w0 b T d true W) (T' : List UInt8) : RS w0 b T' d true W := by
  obtain ⟨bs, hi, hl, hc, hb⟩ := h
  exact ⟨bs, hi, hl, fun e => (by cases e), hb⟩
theorem RS.holds (h : RS w0 b T d fl W) : ∃ cs, W.heap[b]? = some (.cells cs TW (0, 0)) := by
  obtain ⟨_, hi, _⟩ := h
  obtain ⟨_, v, hb, _⟩ := hi
  exact ⟨_, hb⟩
theorem keptR_set (b j : Nat) (w : World) (u : Value) : KeptR b w (w.setCell ⟨b, j, none⟩ u) := (Lib.OthersKept.refl _ _ _).setCell ⟨b, j, none⟩ rfl _
theorem keptR_below {w w' : World} (hb : Below w.heap.size w w') : KeptR b w w' := fun k o hk _ _ => (hb.block k (Array.getElem?_eq_some_iff.1 hk).1).trans hk
end
/-- A text as bytes of one's own: the cells that a copy reads. -/
theorem conv_cells (W : World) (s : ByteArray) : ∃ (cc : Nat) (C : Array Value), (convert 9 48 (.string s)).run Tryd.prog W = .ok (.slice (some ⟨W.heap.size, 0, none⟩) s.size cc) (W.drew.alloc (.cells C 5 (C.size, C.size + 1))) ∧
    ∀ j u, (Lib.byteCells s.data.toList)[j]? = some u → (W.drew.alloc (.cells C 5 (C.size, C.size + 1))).cell? ((⟨W.heap.size, 0, none⟩ : Addr).add j) = some u := by
  obtain ⟨cc, C, h1, h2, h3⟩ := conv_row W s
  refine ⟨cc, C, h1, fun j u hj => ?_⟩
  have hjl : j < s.data.toList.length := by
    have := (List.getElem?_eq_some_iff.1 hj).1
    rwa [Lib.byteCells_length] at this
  have e : (⟨W.heap.size, 0, none⟩ : Addr).add j = ⟨W.heap.size, j, none⟩ := by cases j <;> simp [Addr.add]
  have hh : (W.drew.alloc (.cells C 5 (C.size, C.size + 1))).heap[W.heap.size]? = some (.cells C 5 (C.size, C.size + 1)) := heap_alloc_new W.drew _
  rw [e, Lib.cell_of_heap hh, h3 j hjl, ← hj, Lib.byteCells, List.getElem?_map, List.getElem?_eq_getElem hjl]
  simp [List.getD, List.getElem?_eq_getElem hjl]
set_option maxRecDepth 100000 in
set_option maxHeartbeats 3200000 in
theorem RS.say {w0 : World} {b : Nat} {T : List UInt8} {d : Int} {fl : Bool} {W : World} (h : RS w0 b T d fl W) (s : ByteArray) (hs : s.size ≤ 140737488351232) :
    Calls Tryd.prog 30 #[.pointer (some ⟨b, 0, none⟩), .string s] W fun e w' => e = .returned (.tuple #[]) ∧ (RS w0 b (T ++ s.data.toList) d fl w' ∧ KeptR b W w') := by
  obtain ⟨i0, hi, hz0, hz1, hz2⟩ := info_parts info_u8
  obtain ⟨bs, ⟨hB, v, hbk, hown, hne⟩, hl, hcut, hb⟩ := h
  obtain ⟨ao, cap, rfl⟩ : ∃ ao cap, v = .slice ao bs.length cap := by
    rcases hown.2 with ⟨hv, h0⟩ | ⟨g, cap, cur, hv, _⟩
    · exact ⟨none, 0, by rw [hv, h0]⟩
    · exact ⟨_, _, hv⟩
  have c0 : W.cell? ⟨b, 0, none⟩ = some (.slice ao bs.length cap) := by rw [Lib.cell_of_heap hbk]; rfl
  have HBK := Aside0.mk (And.intro hB (And.intro hbk hne))
  have HCB := Aside0.mk (And.intro hcut (And.intro hb hl))
  have hlt : b < W.heap.size := (Array.getElem?_eq_some_iff.1 hbk).1
  clear hB hbk hne hcut hb
  by_cases h4 : bs.length ≤ 4096
  · have h4i : (bs.length : Int) ≤ 4096 := by omega
    obtain ⟨cc, C, hcv, hcs⟩ := conv_cells W s
    have H4 := Aside0.mk h4
    have HCS := Aside0.mk hcs
    clear h4 hcs
    go_enter Tryd.func30, Tryd.ntmps30
    go_wp2_with (at_builtin; refine wpList_append_own _ rfl _ _ 48 rfl w0.heap.size 5 i0 (.int .u8 0) 1 1 Tryd.underlying48 hi hz0 hz1 hz2 rfl (by decide) _ _ _ rfl (hown.alloc _) ⟨W.heap.size, 0, none⟩ s.size cc (Lib.byteCells s.data.toList) rfl ?c0 ?c1 ?c2 ?c3 ?c4 ?c5 ?_)
    case c0 => rw [Lib.byteCells_length]; have e : s.data.toList.length = s.size := rfl; omega
    case c1 => exact HCS.out
    case c2 => intro u hu; obtain ⟨x, _, rfl⟩ := List.mem_map.1 hu; rfl
    case c3 => have := H4.out; unfold maxLen; omega
    case c4 => have := H4.out; omega
    case c5 => have := HCB.out.2.1.size; simp; omega
    intro v' w2 hown' hgrow _
    have hb2 : w2.heap[b]? = some (.cells #[.slice ao bs.length cap, .int .i64 d, .bool fl] TW (0, 0)) := by
      rw [hgrow.block b (by simp; omega) (fun e => HBK.out.2.2 e.symm)]
      exact (Lib.alloc_old W _ b hlt).trans HBK.out.2.1
    have d0 : w2.cell? ⟨b, 0, none⟩ = some (.slice ao bs.length cap) := by rw [Lib.cell_of_heap hb2]; rfl
    have f0 : w2.frozen? ⟨b, 0, none⟩ = false := Lib.frozen_of_heap hb2 0
    obtain ⟨ao2, n2, cap2, rfl⟩ : ∃ ao2 n2 cap2, v' = .slice ao2 n2 cap2 := by
      rcases hown'.2 with ⟨hv, _⟩ | ⟨g, cap, cur, hv, _⟩
      · exact ⟨_, _, _, hv⟩
      · exact ⟨_, _, _, hv⟩
    have hne2 := Lib.ownBlock_ne hown' hb2 (by decide)
    have hkg : KeptR b W w2 := by
      refine Lib.OthersKept.grown (row := (Value.slice ao bs.length cap).ownBlock) ((Lib.OthersKept.refl _ _ W).alloc (.cells C 5 (C.size, C.size + 1))).drew hgrow (fun g hg => ?_)
      rcases (hown.alloc (.cells C 5 (C.size, C.size + 1))).2 with ⟨hv, _⟩ | ⟨g', cap', cur, hv, _, hgg, _⟩
      · rw [hv] at hg; simp [Value.ownBlock] at hg
      · rw [hv] at hg
        simp [Value.ownBlock] at hg
        subst hg
        exact ⟨_, _, hgg⟩
    have hbw2 : Below w0.heap.size w0 w2 := by
      have h1 : Below w0.heap.size w0 (W.alloc (.cells C 5 (C.size, C.size + 1))) := below_more HCB.out.2.1 _
      refine h1.drew.grown hgrow h1.size (fun k hk => (hown.lt k hk).1)
    have HF := Aside0.mk (And.intro hown' (And.intro hne2 (And.intro hkg hbw2)))
    clear hown' hgrow hne2 hkg hbw2 hown hcv
    go_wp2
    go_end0
    refine ⟨rfl, ⟨bs ++ s.data.toList, ⟨HBK.out.1, _, by rw [rset_heap hb2]; rfl, ?_, HF.out.2.1⟩, ?_, fun e => ?_, HF.out.2.2.2.setCell (p := ⟨b, 0, none⟩) HBK.out.1 _⟩, HF.out.2.2.1.setCell ⟨b, 0, none⟩ rfl _⟩
    · have e1 : Lib.byteCells (bs ++ s.data.toList) = Lib.byteCells bs ++ Lib.byteCells s.data.toList := by simp [Lib.byteCells]
      rw [e1, List.length_append, show s.data.toList.length = s.size from rfl]
      exact HF.out.1.kept (row := some b) ⟨rfl, rfl, rfl, by simp [World.setCell], fun k _ hk => Below.heap_setCell _ _ _ _ (fun e => hk (by simp [e]))⟩ (Or.inr HF.out.2.1)
    · rw [List.length_append, show s.data.toList.length = s.size from rfl]; have := H4.out; omega
    · have := (HCB.out.1 e).say s.data.toList
      rwa [if_pos H4.out] at this
  · have h4i : ¬ (bs.length : Int) ≤ 4096 := by omega
    have H4 := Aside0.mk h4
    clear h4
    go_enter Tryd.func30, Tryd.ntmps30
    go_wp2
    go_end0
    refine ⟨rfl, ⟨bs, ⟨HBK.out.1, _, HBK.out.2.1, hown, HBK.out.2.2⟩, HCB.out.2.2, fun e => ?_, HCB.out.2.1⟩, Lib.OthersKept.refl _ _ _⟩
    have := (HCB.out.1 e).say s.data.toList
    rwa [if_neg H4.out] at this
end Go.Proofs.YtkchpgjjkckfbaaDoor
