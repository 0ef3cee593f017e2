/- The writer's builder, embedded at the head of the printer's writer: its bytes and whether something is wrong; walked in this program. -/
import Derived.Test.YtkchpgjjkckfbaaDoorBld
set_option linter.unusedVariables false
set_option linter.unusedSimpArgs false
namespace Go.Proofs.YtkchpgjjkckfbaaDoor
open Go.RowKit Go.Shelf

/-- A writer in block b that holds bytes. -/
def WB (B b : Nat) (p : Value) (bs : List Value) (wr : Bool) (w : World) : Prop :=
  B ≤ b ∧ ∃ v, w.heap[b]? = some (.cells #[p, v, .bool wr] 52 (0, 0)) ∧ w.ownsRowF B 5 1 v bs.length bs ∧ v.ownBlock ≠ some b
def IsW (B b : Nat) (bs : List UInt8) (wr : Bool) (w : World) : Prop :=
  WB B b (.pointer none) (Lib.byteCells bs) wr w ∨ WB B b (.pointer (some ⟨b, 0, none⟩)) (Lib.byteCells bs) wr w
theorem WB.cell0 {B b : Nat} {p : Value} {bs : List Value} {wr : Bool} {w : World} (h : WB B b p bs wr w) : w.cell? ⟨b, 0, none⟩ = some p := by
  obtain ⟨_, v, hb, _⟩ := h
  rw [Lib.cell_of_heap hb]; rfl
theorem WB.cell2 {B b : Nat} {p : Value} {bs : List Value} {wr : Bool} {w : World} (h : WB B b p bs wr w) : w.cell? ⟨b, 2, none⟩ = some (.bool wr) := by
  obtain ⟨_, v, hb, _⟩ := h
  rw [Lib.cell_of_heap hb]; rfl
theorem WB.shape {B b : Nat} {p : Value} {bs : List Value} {wr : Bool} {w : World} (h : WB B b p bs wr w) : w.shape? b = some (52, 3) := by
  obtain ⟨_, v, hb, _⟩ := h
  simp [World.shape?, hb]
theorem WB.frozen0 {B b : Nat} {p : Value} {bs : List Value} {wr : Bool} {w : World} (h : WB B b p bs wr w) (j : Nat) : w.frozen? ⟨b, j, none⟩ = false := by
  obtain ⟨_, v, hb, _⟩ := h
  exact Lib.frozen_of_heap hb j
theorem WB.lt {B b : Nat} {p : Value} {bs : List Value} {wr : Bool} {w : World} (h : WB B b p bs wr w) : b < w.heap.size := by
  obtain ⟨_, v, hb, _⟩ := h
  exact (Array.getElem?_eq_some_iff.1 hb).1
theorem set_heap {w : World} {b j : Nat} {cs : Array Value} {T : TypeId} {fr : Nat × Nat} (hb : w.heap[b]? = some (.cells cs T fr)) (u : Value) : (w.setCell ⟨b, j, none⟩ u).heap[b]? = some (.cells (cs.setIfInBounds j u) T fr) := by
  simp [World.setCell, Array.getElem?_modify, hb]
theorem WB.used {B b : Nat} {p : Value} {bs : List Value} {wr : Bool} {w : World} (h : WB B b p bs wr w) (q : Value) : WB B b q bs wr (w.setCell ⟨b, 0, none⟩ q) := by
  obtain ⟨hB, v, hb, hown, hne⟩ := h
  refine ⟨hB, v, by rw [set_heap hb]; rfl, ?_, hne⟩
  exact hown.kept (row := some b) ⟨rfl, rfl, rfl, by simp [World.setCell], fun k _ hk => Below.heap_setCell _ _ _ _ (fun e => hk (by simp [e]))⟩ (Or.inr hne)
theorem WB.flag {B b : Nat} {p : Value} {bs : List Value} {wr : Bool} {w : World} (h : WB B b p bs wr w) (q : Bool) : WB B b p bs q (w.setCell ⟨b, 2, none⟩ (.bool q)) := by
  obtain ⟨hB, v, hb, hown, hne⟩ := h
  refine ⟨hB, v, by rw [set_heap hb]; rfl, ?_, hne⟩
  exact hown.kept (row := some b) ⟨rfl, rfl, rfl, by simp [World.setCell], fun k _ hk => Below.heap_setCell _ _ _ _ (fun e => hk (by simp [e]))⟩ (Or.inr hne)
theorem WB.put {B b : Nat} {p v v' : Value} {bs' : List Value} {wr : Bool} {w : World} (hB : B ≤ b) (hb : w.heap[b]? = some (.cells #[p, v, .bool wr] 52 (0, 0))) (hown : w.ownsRowF B 5 1 v' bs'.length bs') : WB B b p bs' wr (w.setCell ⟨b, 1, none⟩ v') := by
  have hne := Lib.ownBlock_neF hown hb (by decide)
  refine ⟨hB, v', by rw [set_heap hb]; rfl, ?_, hne⟩
  exact hown.kept (row := some b) ⟨rfl, rfl, rfl, by simp [World.setCell], fun k _ hk => Below.heap_setCell _ _ _ _ (fun e => hk (by simp [e]))⟩ (Or.inr hne)
theorem WB.alloc {B b : Nat} {p : Value} {bs : List Value} {wr : Bool} {w : World} (h : WB B b p bs wr w) (o : Obj) : WB B b p bs wr (w.alloc o) := by
  have hlt := h.lt
  obtain ⟨hB, v, hb, hown, hne⟩ := h
  exact ⟨hB, v, (Lib.alloc_old w o b hlt).trans hb, hown.kept (World.grownBy_alloc w o none) (by cases hv : v.ownBlock <;> simp), hne⟩
theorem IsW.alloc {B b : Nat} {bs : List UInt8} {wr : Bool} {w : World} (h : IsW B b bs wr w) (o : Obj) : IsW B b bs wr (w.alloc o) := h.imp (fun x => x.alloc o) (fun x => x.alloc o)
theorem IsW.drew {B b : Nat} {bs : List UInt8} {wr : Bool} {w : World} (h : IsW B b bs wr w) : IsW B b bs wr w.drew := h
theorem IsW.flag {B b : Nat} {bs : List UInt8} {wr : Bool} {w : World} (h : IsW B b bs wr w) (q : Bool) : IsW B b bs q (w.setCell ⟨b, 2, none⟩ (.bool q)) := h.imp (fun x => x.flag q) (fun x => x.flag q)
theorem IsW.cell2 {B b : Nat} {bs : List UInt8} {wr : Bool} {w : World} (h : IsW B b bs wr w) : w.cell? ⟨b, 2, none⟩ = some (.bool wr) := h.elim (·.cell2) (·.cell2)
theorem IsW.frozen {B b : Nat} {bs : List UInt8} {wr : Bool} {w : World} (h : IsW B b bs wr w) (j : Nat) : w.frozen? ⟨b, j, none⟩ = false := h.elim (·.frozen0 j) (·.frozen0 j)
theorem IsW.ge {B b : Nat} {bs : List UInt8} {wr : Bool} {w : World} (h : IsW B b bs wr w) : B ≤ b := h.elim (·.1) (·.1)
theorem IsW.lt {B b : Nat} {bs : List UInt8} {wr : Bool} {w : World} (h : IsW B b bs wr w) : b < w.heap.size := h.elim (·.lt) (·.lt)
theorem IsW.fresh (w : World) : IsW w.heap.size w.heap.size [] false (w.alloc (.cells #[.pointer none, .slice none 0 0, .bool false] 52)) :=
  .inl ⟨Nat.le_refl _, .slice none 0 0, heap_alloc_new w _, World.ownsRowF_of (World.ownsRow_nil _ _ _ _), by simp [Value.ownBlock]⟩

set_option maxHeartbeats 1000000 in
set_option maxRecDepth 100000 in
theorem w_fresh (b : Nat) (w : World) (h0 : w.cell? ⟨b, 0, none⟩ = some (.pointer none)) (hsh : w.shape? b = some (52, 3)) (hfz : w.frozen? ⟨b, 0, none⟩ = false) :
    Calls Tryd.prog 69 #[.pointer (some ⟨b, 0, none⟩)] w fun e w' => e = .returned (.tuple #[]) ∧ w' = w.setCell ⟨b, 0, none⟩ (.pointer (some ⟨b, 0, none⟩)) := by
  obtain ⟨j, hj, hjs⟩ := Option.map_eq_some_iff.1 bldR.sizeBuilder
  go_enter Tryd.func69, Tryd.ntmps69
  go_wp2
  rw [Lib.run_to_unsafe w ⟨b, 0, none⟩ Tryd.underlying47 Tryd.underlying149 hj (by rw [hjs]; decide) hsh (Nat.zero_lt_succ 2)]
  simp only [Result.andThen]
  rw [Oper.upon_value]
  go_wp2
  rw [run_callFunc_extern Tryd.func100 (by kernel_rfl) (by kernel_rfl) (by kernel_rfl) (e := Extern.AbiNoEscape.same) (by kernel_rfl)]
  rw [Lib.run_noEscape]
  simp only [Result.andThen]
  rw [Oper.upon_value]
  go_wp2
  rw [Lib.run_from_unsafe w ⟨b, 0, none⟩ Tryd.underlying149 Tryd.underlying47 hj hsh (by kernel_rfl)]
  simp only [Result.andThen]
  rw [Oper.upon_value]
  go_wp2
  go_end0
  exact ⟨rfl, rfl⟩

theorem w_check (B b : Nat) (bs : List UInt8) (wr : Bool) (w : World) (h : IsW B b bs wr w) :
    Calls Tryd.prog 69 #[.pointer (some ⟨b, 0, none⟩)] w fun e w' => e = .returned (.tuple #[]) ∧ (WB B b (.pointer (some ⟨b, 0, none⟩)) (Lib.byteCells bs) wr w' ∧ Below B w w' ∧ KeptB b w w') := by
  rcases h with h | h
  · refine (w_fresh b w h.cell0 h.shape (h.frozen0 0)).mono ?_
    rintro e w' ⟨rfl, rfl⟩
    exact ⟨rfl, h.used _, (Below.refl B w).setCell (p := ⟨b, 0, none⟩) h.1 _, (Lib.OthersKept.refl _ _ w).setCell ⟨b, 0, none⟩ rfl _⟩
  · refine (bld_used b w h.cell0).mono ?_
    rintro e w' ⟨rfl, rfl⟩
    exact ⟨rfl, h, Below.refl B _, Lib.OthersKept.refl _ _ _⟩

theorem strCells_eq (s : ByteArray) : Lib.strCells s = Lib.byteCells s.data.toList := by
  unfold Lib.strCells Lib.byteCells
  first | rfl | simp
set_option maxHeartbeats 2000000 in
set_option maxRecDepth 100000 in
theorem w_text (B b : Nat) (bs : List UInt8) (wr : Bool) (s : ByteArray) (w : World) (h : IsW B b bs wr w) (hlen : bs.length + s.size ≤ 140737488355328) (hBw : B ≤ w.heap.size) :
    Calls Tryd.prog 49 #[.pointer (some ⟨b, 0, none⟩), .string s] w fun e w' => e = .returned (.tuple #[.int .i64 s.size, .nilIface]) ∧ (IsW B b (bs ++ s.data.toList) wr w' ∧ Below B w w' ∧ KeptB b w w') := by
  obtain ⟨i0, hi, hz0, hz1, hz2⟩ := info_parts bldR.infoByte
  go_enter Tryd.func49, Tryd.ntmps49
  go_wp2_with (go_at_call 69; refine (w_check B b bs wr _ h).mono ?_)
  rintro e w1 ⟨rfl, h1, hb1, hk1⟩
  obtain ⟨hB, v, hbk, hown, hne⟩ := h1
  have c0 : w1.cell? ⟨b, 0, none⟩ = some (.pointer (some ⟨b, 0, none⟩)) := by rw [Lib.cell_of_heap hbk]; rfl
  have c1 : w1.cell? ⟨b, 1, none⟩ = some v := by rw [Lib.cell_of_heap hbk]; rfl
  have hbl : (Lib.byteCells bs).length = bs.length := Lib.byteCells_length bs
  go_wp2_with (at_builtin; refine Lib.wpList_append_own_stringF _ rfl _ _ 48 9 rfl B 5 i0 Tryd.underlying48 Tryd.underlying9 hi hz0 hz1 hz2 _ _ _ rfl hown s rfl ?c3 ?c4 ?c5 ?_)
  case c3 => rw [hbl]; unfold maxLen; omega
  case c4 => rw [hbl]; omega
  case c5 => have := hb1.size; omega
  intro v' w2 hown' hgrow _
  have hlt : b < w1.heap.size := (Array.getElem?_eq_some_iff.1 hbk).1
  have hb2 : w2.heap[b]? = some (.cells #[.pointer (some ⟨b, 0, none⟩), v, .bool wr] 52 (0, 0)) := by
    rw [hgrow.block b hlt (fun e => hne e.symm)]
    exact hbk
  have d0 : w2.cell? ⟨b, 0, none⟩ = some (.pointer (some ⟨b, 0, none⟩)) := by rw [Lib.cell_of_heap hb2]; rfl
  have d1 : w2.cell? ⟨b, 1, none⟩ = some v := by rw [Lib.cell_of_heap hb2]; rfl
  have f1 : w2.frozen? ⟨b, 1, none⟩ = false := Lib.frozen_of_heap hb2 1
  obtain ⟨ao, n', cap, rfl⟩ : ∃ ao n' cap, v' = .slice ao n' cap := by
    rcases hown'.2 with ⟨hv, _⟩ | ⟨g, cap, cur, fz, hv, _⟩
    · exact ⟨_, _, _, hv⟩
    · exact ⟨_, _, _, hv⟩
  go_wp2
  go_ret2
  refine ⟨rfl, .inr ?_, ?_, (hk1.grown hgrow (Lib.ownsRowF_kind hown)).setCell ⟨b, 1, none⟩ rfl _⟩
  · refine WB.put hB hb2 (bs' := Lib.byteCells (bs ++ s.data.toList)) ?_
    have e1 : Lib.byteCells (bs ++ s.data.toList) = Lib.byteCells bs ++ Lib.strCells s := by rw [strCells_eq]; simp [Lib.byteCells]
    rw [e1, List.length_append, Lib.strCells_length, hbl]
    first | exact hown' | (rw [hbl] at hown'; exact hown')
  · exact (hb1.grown hgrow (by have := hb1.size; omega) (fun k hk => (hown.lt k hk).1)).setCell (p := ⟨b, 1, none⟩) hB _

set_option maxHeartbeats 1000000 in
set_option maxRecDepth 100000 in
theorem w_len (B b : Nat) (bs : List UInt8) (wr : Bool) (w : World) (h : IsW B b bs wr w) :
    Calls Tryd.prog 39 #[.pointer (some ⟨b, 0, none⟩)] w fun e w' => e = .returned (.int .i64 bs.length) ∧ w' = w := by
  obtain ⟨p, hB, v, hbk, hown, hne⟩ : ∃ p, WB B b p (Lib.byteCells bs) wr w := by
    rcases h with h | h
    · exact ⟨_, h⟩
    · exact ⟨_, h⟩
  have hbl : (Lib.byteCells bs).length = bs.length := Lib.byteCells_length bs
  obtain ⟨ao, cap, rfl⟩ : ∃ ao cap, v = .slice ao bs.length cap := by
    rw [← hbl]
    rcases hown.2 with ⟨hv, h0⟩ | ⟨g, cap, cur, fz, hv, _⟩
    · exact ⟨none, 0, by rw [hv, h0]⟩
    · exact ⟨_, _, hv⟩
  have c1 : w.cell? ⟨b, 1, none⟩ = some (.slice ao bs.length cap) := by rw [Lib.cell_of_heap hbk]; rfl
  go_enter Tryd.func39, Tryd.ntmps39
  go_wp2
  go_ret
  exact ⟨rfl, rfl⟩

set_option maxHeartbeats 4000000 in
set_option maxRecDepth 100000 in
theorem w_string (B b : Nat) (l : List UInt8) (wr : Bool) (w : World) (h : IsW B b l wr w) (hBw : B ≤ w.heap.size) :
    Calls Tryd.prog 40 #[.pointer (some ⟨b, 0, none⟩)] w fun e w' => e = .returned (.string ⟨l.toArray⟩) ∧ Below B w w' := by
  obtain ⟨p, hB, v, hbk, hown, hne⟩ : ∃ p, WB B b p (Lib.byteCells l) wr w := by
    rcases h with h | h
    · exact ⟨_, h⟩
    · exact ⟨_, h⟩
  have hlt : b < w.heap.size := (Array.getElem?_eq_some_iff.1 hbk).1
  have hUN : ∀ (W : World) (q : Option Addr), (Builtin.unsafeString_ #[124, 3] 9 #[.pointer q, .int .i64 0]).run Tryd.prog W = .ok (.string ByteArray.empty) W := Any.unsafeString_none Tryd.blays169 bldS
  have mixed : Tryd.prog.follows Departure.mixedOrders = true := Tryd.blays169.mixed
  rw [Lib.byteCells_length] at hown
  rcases hown.2 with ⟨rfl, hz⟩ | ⟨g, cap, cur, fz, rfl, hbg, hg, hfz, hnc, hcm, hcs, htake⟩
  · obtain rfl : l = [] := List.length_eq_zero_iff.1 hz
    have c1 : w.drew.cell? ⟨b, 1, none⟩ = some (.slice none 0 0) := by
      have : w.drew.heap[b]? = _ := hbk
      rw [Lib.cell_of_heap this]; rfl
    have hSD : (Builtin.unsafeSliceData_ #[48] 124 #[.slice none 0 0]).run Tryd.prog w.drew = .ok (.pointer none) w.drew := rfl
    go_enter Tryd.func40, Tryd.ntmps40
    go_wp2
    go_region_o
    all_goals (go_wp2; go_ret; exact ⟨rfl, Below.drew (Below.refl B w)⟩)
  · by_cases hl0 : l.length = 0
    · obtain rfl : l = [] := List.length_eq_zero_iff.1 hl0
      by_cases hc0 : cap = 0
      · subst hc0
        have c1 : w.drew.cell? ⟨b, 1, none⟩ = some (.slice (some ⟨g, 0, none⟩) 0 0) := by
          have : w.drew.heap[b]? = _ := hbk
          rw [Lib.cell_of_heap this]; rfl
        have hSD : (Builtin.unsafeSliceData_ #[48] 124 #[.slice (some ⟨g, 0, none⟩) 0 0]).run Tryd.prog w.drew = .ok (.pointer (some ⟨w.drew.heap.size, 0, none⟩)) (w.drew.alloc (.view ⟨g, 0, none⟩ 5)) :=
          Lib.run_unsafeSliceData_zero w.drew _ _ 5 Tryd.underlying124 ⟨g, 0, none⟩ 0 (5, cur.size) (by have hg' : w.drew.heap[g]? = some (.cells cur 5 fz) := hg; simp [World.shape?, hg'])
        have c2 : (w.drew.alloc (.view ⟨g, 0, none⟩ 5)).cell? ⟨b, 1, none⟩ = some (.slice (some ⟨g, 0, none⟩) 0 0) := by
          have : (w.drew.alloc (.view ⟨g, 0, none⟩ 5)).heap[b]? = _ := (Lib.alloc_old w.drew _ b hlt).trans hbk
          rw [Lib.cell_of_heap this]; rfl
        have c3 : (w.alloc (.view ⟨g, 0, none⟩ 5)).drew.cell? ⟨b, 1, none⟩ = some (.slice (some ⟨g, 0, none⟩) 0 0) := c2
        have c0 : w.cell? ⟨b, 1, none⟩ = some (.slice (some ⟨g, 0, none⟩) 0 0) := c1
        go_enter Tryd.func40, Tryd.ntmps40
        go_wp2
        go_region_o
        all_goals (go_wp2; go_ret; exact ⟨rfl, (Below.drew (Below.refl B w)).alloc hBw _⟩)
      · have c1 : w.drew.cell? ⟨b, 1, none⟩ = some (.slice (some ⟨g, 0, none⟩) 0 cap) := by
          have : w.drew.heap[b]? = _ := hbk
          rw [Lib.cell_of_heap this]; rfl
        have hSD : (Builtin.unsafeSliceData_ #[48] 124 #[.slice (some ⟨g, 0, none⟩) 0 cap]).run Tryd.prog w.drew = .ok (.pointer (some ⟨g, 0, none⟩)) w.drew :=
          Lib.run_unsafeSliceData_row _ _ _ _ _ _ hc0
        clear hc0 hnc
        go_enter Tryd.func40, Tryd.ntmps40
        go_wp2
        go_region_o
        all_goals (go_wp2; go_ret; exact ⟨rfl, Below.drew (Below.refl B w)⟩)
    · have h0 : l ≠ [] := fun e => hl0 (by rw [e]; rfl)
      have c1 : w.drew.cell? ⟨b, 1, none⟩ = some (.slice (some ⟨g, 0, none⟩) l.length cap) := by
        have : w.drew.heap[b]? = _ := hbk
        rw [Lib.cell_of_heap this]; rfl
      have hSD : (Builtin.unsafeSliceData_ #[48] 124 #[.slice (some ⟨g, 0, none⟩) l.length cap]).run Tryd.prog w.drew = .ok (.pointer (some ⟨g, 0, none⟩)) w.drew :=
        Lib.run_unsafeSliceData_row _ _ _ _ _ _ (by omega)
      have hUS : (Builtin.unsafeString_ #[124, 3] 9 #[.pointer (some ⟨g, 0, none⟩), .int .i64 l.length]).run Tryd.prog w.drew = .ok (.string ⟨l.toArray⟩) (w.drew.freeze ⟨g, 0, none⟩ l.length) := by
        refine Lib.run_unsafeString_row w.drew 124 3 9 5 Tryd.underlying124 bldS.cellsByte g cur.size (by have hg' : w.drew.heap[g]? = some (.cells cur 5 fz) := hg; simp [World.shape?, hg']) l h0 (by omega) (by unfold maxLen at hcm; omega) ?_
        intro j x hx
        exact hown.cells (g := g) rfl j (.int .u8 x.toNat) (by simp [Lib.byteCells, hx])
      clear hl0 hnc hUN
      go_enter Tryd.func40, Tryd.ntmps40
      go_wp2
      go_region_o
      all_goals (go_wp2; go_ret; exact ⟨rfl, Lib.below_freeze (Below.drew (Below.refl B w)) (p := ⟨g, 0, none⟩) hbg _⟩)
end Go.Proofs.YtkchpgjjkckfbaaDoor
