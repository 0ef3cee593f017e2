/- The head of the laws on graphs as they are handed in: Check, the head itself. -/
import Derived.Test.YtffifhinhemkdaaDoorRgHead
set_option linter.unusedVariables false
set_option linter.unusedSimpArgs false
namespace Go.Proofs.YtffifhinhemkdaaDoor
open Go.RowKit Go.Maps

/-- A box of a place. -/
def PBox (W : World) (b : Nat) (cs : Array Value) : Prop := W.heap[b]? = some (.cells cs 31 (0, 0))
theorem PBox.cells {W : World} {b : Nat} {cs : Array Value} (h : PBox W b cs) : ∀ j, W.cell? ⟨b, j, none⟩ = cs[j]? := fun j => by
  unfold World.cell?
  rw [h]
  rfl
theorem PBox.free {W : World} {b : Nat} {cs : Array Value} (h : PBox W b cs) : ∀ j, W.frozen? ⟨b, j, none⟩ = false := fun j => Lib.frozen_of_heap h j
theorem PBox.lt {W : World} {b : Nat} {cs : Array Value} (h : PBox W b cs) : b < W.heap.size := (Array.getElem?_eq_some_iff.1 h).1
theorem PBox.at_ {W W' : World} {b : Nat} {cs : Array Value} (h : PBox W b cs) (hk : W'.heap[b]? = W.heap[b]?) : PBox W' b cs := hk.trans h
theorem PBox.put {W : World} {b : Nat} {cs : Array Value} (h : PBox W b cs) (j : Nat) (v : Value) : PBox (W.setCell ⟨b, j, none⟩ v) b (cs.setIfInBounds j v) := heap_setCell_same W b j cs _ v h
theorem results_place {fn : Func} {tmps : Array Value} {W : World} {b : Nat} {cs : Array Value} {v : Value} (h : fn.results = #[.cell 2 31, .tmp 3]) (h4 : tmps.getD 2 undef = .pointer (some ⟨b, 0, none⟩)) (h3 : tmps.getD 3 undef = v) (hb : PBox W b cs) (hc : cs.size = 2) :
    (results fn tmps).run Tryd.prog W = .ok (.tuple #[.agg cs, v]) W := by
  have hi : (Tryd.prog.info? 31).map (·.size) = some cs.size := by rw [hc]; kernel_rfl
  have hl := run_loadVar_row (P := Tryd.prog) W b 31 31 cs (0, 0) _ hb Tryd.underlying31 rfl hi
  have h5 := h4
  have h6 := h3
  rw [Array.getD_eq_getD_getElem?] at h5 h6
  simp [results, h, h5, h6, asAddr, hl, Result.andThen]
set_option maxRecDepth 100000 in
set_option maxHeartbeats 3200000 in
theorem check_head (b : Nat) (w : World) (hb : w.heap[b]? = some (.cells headT 41 (0, 0))) :
    Calls Tryd.prog 8 #[.agg #[.slice (some ⟨b, 0, none⟩) 2 2, .slice none 0 0, .slice none 0 0, .slice none 0 0]] w fun e w' => e = .returned (.tuple #[.agg #[.int .i64 1, .int .i64 1], .int .i64 42]) ∧ Below w.heap.size w w' := by
  have hbl : b < w.heap.size := (Array.getElem?_eq_some_iff.1 hb).1
  have HD : Aside0 (∀ W, Below w.heap.size w W → Calls Tryd.prog 16 #[.slice (some ⟨b, 0, none⟩) 2 2] W fun e w' => e = .returned (.tuple #[.map none, .int .i64 1, .int .i64 42]) ∧ Below W.heap.size W w') := ⟨fun W h => declared_head b W ((h.block b hbl).trans hb)⟩
  have hmm := @run_makeMap Tryd.prog
  clear hb
  go_enter Tryd.func8, Tryd.ntmps8
  go_upto_region 2 with (fail)
  obtain ⟨Wa, hWa⟩ : ∃ Wa, Wa = w.alloc (.cells #[.slice (some ⟨b, 0, none⟩) 2 2, .slice none 0 0, .slice none 0 0, .slice none 0 0] 28) := ⟨_, rfl⟩
  obtain ⟨Wb, hWb⟩ : ∃ Wb, Wb = Wa.alloc (.cells #[.int .i64 0, .int .i64 0] 31) := ⟨_, rfl⟩
  obtain ⟨Wc, hWc⟩ : ∃ Wc, Wc = Wb.alloc (.map #[] 0) := ⟨_, rfl⟩
  obtain ⟨Wd, hWd⟩ : ∃ Wd, Wd = Wc.alloc (.map #[] 0) := ⟨_, rfl⟩
  obtain ⟨We, hWe⟩ : ∃ We, We = Wd.alloc (.cells #[.map none, .map none, .map (some (w.heap.size + 1 + 1)), .map (some (w.heap.size + 1 + 1 + 1))] 47) := ⟨_, rfl⟩
  have sa : Wa.heap.size = w.heap.size + 1 := by rw [hWa]; simp
  have sb : Wb.heap.size = w.heap.size + 1 + 1 := by rw [hWb]; simp; omega
  have sc : Wc.heap.size = w.heap.size + 1 + 1 + 1 := by rw [hWc]; simp; omega
  have sd : Wd.heap.size = w.heap.size + 1 + 1 + 1 + 1 := by rw [hWd]; simp; omega
  have se : We.heap.size = w.heap.size + 1 + 1 + 1 + 1 + 1 := by rw [hWe]; simp; omega
  have hba : Below w.heap.size w We := by rw [hWe, hWd, hWc, hWb, hWa]; exact below_more (below_more (below_more (below_more (below_more (Below.refl _ _) _) _) _) _) _
  have ra : We.heap[w.heap.size]? = some (.cells #[.slice (some ⟨b, 0, none⟩) 2 2, .slice none 0 0, .slice none 0 0, .slice none 0 0] 28 (0, 0)) := by
    rw [hWe, heap_alloc_old _ _ (by omega), hWd, heap_alloc_old _ _ (by omega), hWc, heap_alloc_old _ _ (by omega), hWb, heap_alloc_old _ _ (by omega), hWa]
    exact heap_alloc_new w _
  have rb : PBox We (w.heap.size + 1) #[.int .i64 0, .int .i64 0] := by
    unfold PBox
    rw [hWe, heap_alloc_old _ _ (by omega), hWd, heap_alloc_old _ _ (by omega), hWc, heap_alloc_old _ _ (by omega), hWb, ← sa]
    exact heap_alloc_new Wa _
  have re : We.heap[w.heap.size + 1 + 1 + 1 + 1]? = some (.cells #[.map none, .map none, .map (some (w.heap.size + 1 + 1)), .map (some (w.heap.size + 1 + 1 + 1))] 47 (0, 0)) := by
    rw [hWe, ← sd]
    exact heap_alloc_new Wd _
  rw [← hWa, ← hWb, ← hWc, ← hWd, ← hWe]
  obtain ⟨br, hbr⟩ : ∃ br, br = w.heap.size := ⟨_, rfl⟩
  obtain ⟨bp, hbp⟩ : ∃ bp, bp = w.heap.size + 1 := ⟨_, rfl⟩
  obtain ⟨bc, hbc⟩ : ∃ bc, bc = w.heap.size + 1 + 1 + 1 + 1 := ⟨_, rfl⟩
  obtain ⟨m1, hm1⟩ : ∃ m1, m1 = w.heap.size + 1 + 1 := ⟨_, rfl⟩
  obtain ⟨m2, hm2⟩ : ∃ m2, m2 = w.heap.size + 1 + 1 + 1 := ⟨_, rfl⟩
  rw [← hbc, ← hm2, ← hm1] at re
  rw [← hbp] at rb
  rw [← hbr] at ra
  rw [← hbc, ← hm2, ← hm1, ← hbp, ← hbr]
  have HNE : Aside0 (bp ≠ bc ∧ w.heap.size ≤ bp ∧ w.heap.size ≤ bc ∧ bc < We.heap.size ∧ bp < We.heap.size ∧ br < We.heap.size) := ⟨by omega⟩
  have hd := HD.out We hba
  have HRA := Aside0.mk ra
  have HRB := Aside0.mk rb
  have HRE := Aside0.mk re
  have HBA := Aside0.mk hba
  have hrc : ∀ j, We.cell? ⟨br, j, none⟩ = (#[.slice (some ⟨b, 0, none⟩) 2 2, .slice none 0 0, .slice none 0 0, .slice none 0 0] : Array Value)[j]? := fun j => by
    unfold World.cell?
    rw [ra]
    rfl
  clear hWa hWb hWc hWd hWe sa sb sc sd se ra rb re hbr hbp hbc hm1 hm2 hba HD hmm
  go_wp2_with (go_at_call 16; go_loud (refine hd.mono ?_))
  first
    | (intro e W3 he hb3; subst he)
    | rintro e W3 ⟨rfl, hb3⟩
  have re3 : W3.heap[bc]? = some (.cells #[.map none, .map none, .map (some m1), .map (some m2)] 47 (0, 0)) := (hb3.block bc HNE.out.2.2.2.1).trans HRE.out
  have rb3 : PBox W3 bp #[.int .i64 0, .int .i64 0] := HRB.out.at_ (hb3.block bp HNE.out.2.2.2.2.1)
  have hec : ∀ j, W3.cell? ⟨bc, j, none⟩ = (#[.map none, .map none, .map (some m1), .map (some m2)] : Array Value)[j]? := fun j => by
    unfold World.cell?
    rw [re3]
    rfl
  have hef : ∀ j, W3.frozen? ⟨bc, j, none⟩ = false := fun j => Lib.frozen_of_heap re3 j
  have HB3 := Aside0.mk (below_then HBA.out hb3)
  have HRB3 := Aside0.mk rb3
  clear hd hb3 re3 rb3 hrc HRA HRB HRE
  go_upto_region 6 with (fail)
  obtain ⟨W4, hW4⟩ : ∃ W4, W4 = W3.setCell ⟨bc, 0, none⟩ (.map none) := ⟨_, rfl⟩
  rw [← hW4]
  have rb4 : PBox W4 bp #[.int .i64 0, .int .i64 0] := HRB3.out.at_ (by rw [hW4]; exact heap_setCell_other _ _ _ _ HNE.out.1)
  have HB4 : Aside0 (Below w.heap.size w W4) := ⟨by rw [hW4]; exact below_set HB3.out (p := ⟨bc, 0, none⟩) HNE.out.2.2.1 _⟩
  have hpc := rb4.cells
  have hpf := rb4.free
  clear hW4 hec hef
  go_wp2
  refine bodyPost_ret (results_place rfl rfl rfl ((rb4.put 0 _).put 1 _) rfl) rfl ?_
  exact ⟨rfl, below_set (below_set HB4.out (p := ⟨bp, 0, none⟩) HNE.out.2.1 _) (p := ⟨bp, 1, none⟩) HNE.out.2.1 _⟩
end Go.Proofs.YtffifhinhemkdaaDoor
