/- The law's copied: a value whose numbers are an own row. -/
import Derived.Test.YthafbdkjpgeopaaDoorHead
import Derived.Test.YthafbdkjpgeopaaDoorEncS
set_option linter.unusedVariables false
set_option linter.unusedSimpArgs false
namespace Go.Proofs.YthafbdkjpgeopaaDoor
open Go.RowKit

/-- A box that holds a value's five cells. -/
def BoxV (W : World) (b : Nat) (cs : Array Value) : Prop := W.heap[b]? = some (.cells cs 25 (0, 0))
theorem BoxV.cells {W : World} {b : Nat} {cs : Array Value} (h : BoxV W b cs) : ∀ j, W.cell? ⟨b, j, none⟩ = cs[j]? := fun j => by
  unfold World.cell?
  rw [h]
  rfl
theorem BoxV.free {W : World} {b : Nat} {cs : Array Value} (h : BoxV W b cs) : ∀ j, W.frozen? ⟨b, j, none⟩ = false := fun j => Lib.frozen_of_heap h j
theorem BoxV.lt {W : World} {b : Nat} {cs : Array Value} (h : BoxV W b cs) : b < W.heap.size := (Array.getElem?_eq_some_iff.1 h).1
theorem BoxV.put {W : World} {b : Nat} {cs : Array Value} (h : BoxV W b cs) (j : Nat) (v : Value) : BoxV (W.setCell ⟨b, j, none⟩ v) b (cs.setIfInBounds j v) := heap_setCell_same W b j cs _ v h
theorem BoxV.kept {W W' : World} {b : Nat} {cs : Array Value} (h : BoxV W b cs) (hb : Below W.heap.size W W') : BoxV W' b cs := (hb.block b h.lt).trans h
theorem results_val {fn : Func} {tmps : Array Value} {W : World} {b : Nat} {cs : Array Value} (h : fn.results = #[.cell 2 25]) (h4 : tmps.getD 2 undef = .pointer (some ⟨b, 0, none⟩)) (hb : BoxV W b cs) (hc : cs.size = 5) :
    (results fn tmps).run Tryd.prog W = .ok (.agg cs) W := by
  have hi : (Tryd.prog.info? 25).map (·.size) = some cs.size := by rw [hc]; kernel_rfl
  have hl := run_loadVar_row (P := Tryd.prog) W b 25 25 cs (0, 0) _ hb Tryd.underlying25 rfl hi
  have h5 := h4
  rw [Array.getD_eq_getD_getElem?] at h5
  simp [results, h, h5, asAddr, hl, Result.andThen]
theorem info_i64 : (Tryd.prog.info? 2).map (fun i => (i.zero, i.size, i.bytes)) = some (some (.int .i64 0), 1, 8) := by kernel_rfl
def numCells (p : List Int) : List Value := p.map fun n => .int .i64 n
/-- An own row of numbers, as a slice that is read. -/
theorem own_nums {W : World} {B : Nat} {v : Value} {p : List Int} (h : W.ownsRow B 2 1 v p.length (numCells p)) :
    ∃ (A : Option Addr) (cap : Nat), v = .slice A p.length cap ∧ ReadsI W A p ∧ p.length ≤ cap ∧ ∀ ad, A = some ad → B ≤ ad.block := by
  have h' := h
  rcases h with ⟨hl, ⟨rfl, h0⟩ | ⟨g, cap, cur, rfl, hg, hh, hn, hm, hs, htk⟩⟩
  · rw [h0]
    exact ⟨none, 0, rfl, ⟨by omega, fun hp => absurd hp (by omega)⟩, Nat.le_refl _, fun ad e => by cases e⟩
  · refine ⟨_, cap, rfl, ⟨by unfold maxLen at hm; omega, fun _ => ⟨_, rfl, fun j hj => ?_⟩⟩, hn, fun ad e => by cases e; exact hg⟩
    have hcs := h'.cells (g := g) rfl j (.int .i64 (p.getD j 0)) (by simp [numCells, List.getD, hj])
    exact hcs
/-- What lies from a block on is read as it was. -/
theorem readsI_off {W W' : World} {A : Option Addr} {p : List Int} {B : Nat} (h : ReadsI W A p) (hA : ∀ ad, A = some ad → B ≤ ad.block) (hk : ∀ k, B ≤ k → W'.heap[k]? = W.heap[k]?) : ReadsI W' A p :=
  ⟨h.1, fun hp => by
    obtain ⟨ad, e, hc⟩ := h.2 hp
    refine ⟨ad, e, fun j hj => ?_⟩
    rw [← hc j hj]
    have hb : (ad.add j).block = ad.block := by unfold Addr.add; split <;> rfl
    unfold World.cell?
    rw [hb, hk _ (hA ad e)]⟩
theorem heap_two (w : World) (o1 o2 o3 : Obj) : (((w.alloc o1).alloc o2).alloc o3).heap[w.heap.size + 1]? = some o2 := by
  have h := heap_alloc_new (w.alloc o1) o2
  rw [show (w.alloc o1).heap.size = w.heap.size + 1 by simp] at h
  exact (heap_alloc_old _ _ (by simp)).trans h
theorem heap_one (w : World) (o1 o2 o3 : Obj) : (((w.alloc o1).alloc o2).alloc o3).heap[w.heap.size]? = some o1 :=
  (heap_alloc_old _ _ (by simp; omega)).trans ((heap_alloc_old _ _ (by simp)).trans (heap_alloc_new w o1))
set_option maxRecDepth 100000 in
set_option maxHeartbeats 3200000 in
theorem copied_any (k n : Int) (b : Bool) (s : ByteArray) (A : Option Addr) (p : List Int) (c : Nat) (w : World) (hr : ReadsI w A p) (hp : p.length ≤ 17592186044416) :
    Calls Tryd.prog 37 #[.agg #[.int .i64 k, .bool b, .int .i64 n, .string s, .slice A p.length c]] w fun e w' => ∃ A' c', e = .returned (.agg #[.int .i64 k, .bool b, .int .i64 n, .string s, .slice A' p.length c']) ∧ ReadsI w' A' p ∧ p.length ≤ c' ∧ Below w.heap.size w w' := by
  obtain ⟨i0, hi, hz0, hz1, hz2⟩ := info_parts info_i64
  have hld : ∀ W : World, Sem.run Tryd.prog (pure (#[] : Array Value)) W = .ok #[] W := fun _ => rfl
  have hst : ∀ (ad : Addr) (W : World), Sem.run Tryd.prog (storeCells ad ([] : List Value) 0) W = .ok () W := fun _ _ => rfl
  have hl0 : ∀ (ad : Addr) (W : World), Sem.run Tryd.prog (loadCellsFrom ad 0 0 #[]) W = .ok #[] W := fun _ _ => rfl
  by_cases hp0 : p = []
  · subst hp0
    cases A with
    | none =>
      go_enter Tryd.func37, Tryd.ntmps37
      go_wp2
      refine bodyPost_ret (results_val rfl rfl (cs := #[.int .i64 k, .bool b, .int .i64 n, .string s, .slice (some ⟨w.heap.size + 1 + 1, 0, none⟩) 0 0]) ?b rfl) rfl ?_
      case b => first | (exact heap_two w _ _ _)
      exact ⟨_, 0, rfl, ⟨by decide, fun h => absurd h (by decide)⟩, Nat.le_refl _, (((Below.refl w.heap.size w).alloc (Nat.le_refl _) _).alloc (by simp) _).alloc (by simp; omega) _⟩
    | some ad =>
      go_enter Tryd.func37, Tryd.ntmps37
      go_wp2
      refine bodyPost_ret (results_val rfl rfl (cs := #[.int .i64 k, .bool b, .int .i64 n, .string s, .slice (some ⟨w.heap.size + 1 + 1, 0, none⟩) 0 0]) ?c rfl) rfl ?_
      case c => first | (exact heap_two w _ _ _)
      exact ⟨_, 0, rfl, ⟨by decide, fun h => absurd h (by decide)⟩, Nat.le_refl _, (((Below.refl w.heap.size w).alloc (Nat.le_refl _) _).alloc (by simp) _).alloc (by simp; omega) _⟩
  · obtain ⟨ad, rfl, hcs⟩ := hr.2 (List.length_pos_iff.2 hp0)
    have hp63 : (p.length : Int) ≤ 17592186044416 := by omega
    have HCS := Aside0.mk hcs
    have HR := Aside0.mk hr
    have hcb : ad.block < w.heap.size := World.block_lt_of_cell? w _ (hcs 0 (List.length_pos_iff.2 hp0))
    clear hcs hr hld hst hl0
    go_enter Tryd.func37, Tryd.ntmps37
    go_wp2_with (at_builtin; go_loud (refine wpList_append_own _ rfl (.tmp 3) (.tmp 5) 23 rfl (w.heap.size + 1 + 1) 2 i0 (.int .i64 0) 1 8 Tryd.underlying23 hi hz0 hz1 hz2 rfl (by decide) (.slice (some ⟨w.heap.size + 1 + 1, 0, none⟩) 0 0) 0 [] rfl ?h0 ad p.length c (numCells p) rfl (by simp [numCells]) ?c1 ?c2 ?c3 ?c4 ?c5 ?_))
    case h0 => exact ⟨by simp, .inr ⟨w.heap.size + 1 + 1, 0, #[], rfl, Nat.le_refl _, by simpa using heap_alloc_new ((w.alloc _).alloc _) _, Nat.le_refl _, by decide, by simp, by simp⟩⟩
    case c1 =>
      intro j u hj
      have hjl : j < p.length := by
        have := (List.getElem?_eq_some_iff.1 hj).1
        simpa [numCells] using this
      have hu : u = .int .i64 (p.getD j 0) := by
        simp [numCells, hjl] at hj
        rw [← hj]
        simp [List.getD, hjl]
      rw [hu]
      exact ((((Below.refl w.heap.size w).alloc (Nat.le_refl _) _).alloc (by simp) _).alloc (by simp; omega) _ |>.cell (World.block_lt_of_cell? w _ (HCS.out j hjl))).trans (HCS.out j hjl)
    case c2 => intro u hu; simp [numCells] at hu; obtain ⟨y, _, rfl⟩ := hu; rfl
    case c3 => unfold maxLen; omega
    case c4 => omega
    case c5 => simp
    intro v' W1 ho1 hg1 _
    have hg2 := hg1
    have hB1 : Below w.heap.size w W1 := by
      refine ⟨hg2.os, hg2.tape, hg2.output, Nat.le_trans (by simp; omega) hg2.size, fun j hj => ?_⟩
      have h9 := hg2.block j (by simp; omega) (fun e => by have h : _ = w.heap.size + 1 + 1 := Option.some.inj e; omega)
      exact h9.trans ((((Below.refl w.heap.size w).alloc (Nat.le_refl _) _).alloc (by simp) _).alloc (by simp; omega) _ |>.block j hj)
    have hb0 : BoxV W1 w.heap.size #[.int .i64 k, .bool b, .int .i64 n, .string s, .slice (some ad) p.length c] := (hg2.block w.heap.size (by simp; omega) (fun e => by have h : _ = w.heap.size + 1 + 1 := Option.some.inj e; omega)).trans (heap_one w _ _ _)
    have hb2 : BoxV W1 (w.heap.size + 1) #[.int .i64 0, .bool false, .int .i64 0, .string ⟨#[]⟩, .slice none 0 0] := (hg2.block (w.heap.size + 1) (by simp) (fun e => by have h : _ = w.heap.size + 1 + 1 := Option.some.inj e; omega)).trans (heap_two w _ _ _)
    obtain ⟨A', c', rfl, hrA, hca, hAb⟩ := own_nums (by simpa using ho1)
    have hbc0 := hb0.cells
    have hbf0 := hb0.free
    have hbc2 := hb2.cells
    have hbf2 := hb2.free
    have hbx0 := hb0.put 4 (.slice A' p.length c')
    have hbx2 := (((((hb2.put 0 (.int .i64 k)).put 1 (.bool b)).put 2 (.int .i64 n)).put 3 (.string s)).put 4 (.slice A' p.length c'))
    have HRA := Aside0.mk hrA
    clear hg1 hg2 ho1 hrA
    have HAB := Aside0.mk hAb
    clear hAb
    go_wp2
    have hb3 : BoxV (W1.setCell ⟨w.heap.size, 4, none⟩ (.slice A' p.length c')) (w.heap.size + 1) #[.int .i64 0, .bool false, .int .i64 0, .string ⟨#[]⟩, .slice none 0 0] := (heap_setCell_other W1 ⟨w.heap.size, 4, none⟩ (w.heap.size + 1) _ (by simp)).trans hb2
    refine bodyPost_ret (results_val rfl rfl (((((hb3.put 0 _).put 1 _).put 2 _).put 3 _).put 4 _) rfl) rfl ?_
    refine ⟨A', c', rfl, readsI_off HRA.out HAB.out (fun j hj => ?_), hca, below_set (below_set (below_set (below_set (below_set (below_set hB1 (by simp) _) (by simp) _) (by simp) _) (by simp) _) (by simp) _) (by simp) _⟩
    rw [heap_setCell_other _ _ _ _ (by simp; omega), heap_setCell_other _ _ _ _ (by simp; omega), heap_setCell_other _ _ _ _ (by simp; omega), heap_setCell_other _ _ _ _ (by simp; omega), heap_setCell_other _ _ _ _ (by simp; omega), heap_setCell_other _ _ _ _ (by simp; omega)]
end Go.Proofs.YthafbdkjpgeopaaDoor
