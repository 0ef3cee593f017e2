/- slices.SortFunc of nodes, of edges, by their IDs. -/
import Derived.Test.YtffifhinhemkdaaDoorRgRow2
import Derived.Test.YtffifhinhemkdaaDoorShelfQ
import Derived.Shelf.SlSortCmp.WholeK
import Derived.Shelf.SlicesG.Cmp
set_option linter.unusedVariables false
set_option linter.unusedSimpArgs false
namespace Go.Proofs.YtffifhinhemkdaaDoor
open Go.RowKit Go.Shelf Go.Lib Go.Sort

instance : Inhabited ND := ⟨ND.zero⟩
instance : Inhabited ED := ⟨ED.zero⟩
theorem getD_bang {α : Type} [Inhabited α] (l : Array α) (j : Nat) : l[j]! = l.toList.getD j default := by
  rw [getElem!_def, List.getD_eq_getElem?_getD, Array.getElem?_toList]
  cases l[j]? <;> rfl
theorem flatK_list {α : Type} [Inhabited α] (f : α → List Value) (st : Nat) (hf : ∀ x, (f x).length = st) (hp : 0 < st) (d : Array α) : (flatK f st d).toList = d.toList.flatMap f := by
  apply List.ext_getElem?
  intro t
  by_cases ht : t < d.size * st
  · have hq : t / st < d.toList.length := by
      rw [Array.length_toList]
      exact Nat.div_lt_of_lt_mul (by rw [Nat.mul_comm]; exact ht)
    have hi : t % st < st := Nat.mod_lt _ hp
    have hx := flat_at f st default hf d.toList (t / st) (t % st) hq hi
    have e : t / st * st + t % st = t := Nat.div_add_mod' t st
    rw [e] at hx
    have hs : t < (flatK f st d).size := by rw [size_flatK]; exact ht
    have h1 := get_flatK f st d t ht
    rw [getElem!_pos _ t hs] at h1
    rw [hx, Array.getElem?_toList, Array.getElem?_eq_getElem hs, h1, getD_bang]
    have hl : t % st < (f (d.toList.getD (t / st) default)).length := by rw [hf]; exact hi
    rw [List.getElem?_eq_getElem hl, getElem!_pos (f (d.toList.getD (t / st) default)) (t % st) hl]
  · rw [List.getElem?_eq_none (by rw [Array.length_toList, size_flatK]; omega), List.getElem?_eq_none (by rw [flat_len f st hf, Array.length_toList]; omega)]
theorem holds_own {W : World} {B g n c st : Nat} {e : TypeId} {F : Array Value} (h : W.ownsRow B e st (.slice (some ⟨g, 0, none⟩) n c) n F.toList) : Holds id W g 0 F := by
  intro j hj
  have hl : j < F.toList.length := by simpa using hj
  have h1 := h.cells (g := g) rfl j _ (List.getElem?_eq_getElem hl)
  rw [add_zero_] at h1
  refine ⟨?_, by rw [Nat.zero_add]; exact h.frozenAt j⟩
  rw [Nat.zero_add, h1, getElem!_pos _ j hj]
  rfl
theorem take_putCellsV (cur F : Array Value) (h : F.size ≤ cur.size) : (putCells id 0 F cur).toList.take F.size = F.toList := by
  apply List.ext_getElem?
  intro j
  by_cases hj : j < F.size
  · rw [List.getElem?_take_of_lt hj, Array.getElem?_toList]
    simp [putCells, hj, show j < cur.size by omega]
  · rw [List.getElem?_take_eq_none (by omega), List.getElem?_eq_none (by simp; omega)]
theorem own_sorted {W : World} {B g n c st m : Nat} {e : TypeId} {os : Array Obj} {xs : List Value} {F : Array Value} (h : W.ownsRow B e st (.slice (some ⟨g, 0, none⟩) n c) n xs) (hF : F.size = n * st) :
    (grow (putRow id (Sort.ahead W m) g 0 F) os).ownsRow B e st (.slice (some ⟨g, 0, none⟩) n c) n F.toList := by
  rcases h.2 with ⟨h', _⟩ | ⟨g', cap', cur, h', hb, hg, hnc, hcm, hcs, htake⟩
  · cases h'
  · cases h'
    have hgl : g < W.heap.size := (Array.getElem?_eq_some_iff.1 hg).1
    have hh : (grow (putRow id (Sort.ahead W m) g 0 F) os).heap[g]? = some (.cells (putCells id 0 F cur) e (0, 0)) := by
      rw [heap_grow_old _ _ (by simpa using hgl)]
      simp [putRow, mapBlock, Sort.ahead, Array.getElem?_modify, hg, onCells]
    refine ⟨by rw [Array.length_toList, hF], .inr ⟨g, c, _, rfl, hb, hh, hnc, hcm, by simpa [putCells] using hcs, ?_⟩⟩
    rw [← hF]
    exact take_putCellsV cur F (by rw [hF, hcs]; exact Nat.mul_le_mul_right _ hnc)
theorem grown_sorted {W : World} {g m : Nat} {os : Array Obj} (F : Array Value) : W.grownBy (grow (putRow id (Sort.ahead W m) g 0 F) os) (some g) := by
  refine ⟨rfl, rfl, rfl, by simp, fun k hk hne => ?_⟩
  rw [heap_grow_old _ _ (by simpa using hk)]
  have : g ≠ k := fun e => hne (by rw [e])
  simp [putRow, mapBlock, Sort.ahead, Array.getElem?_modify, this]
theorem cmp_lt (a b : Int) : (Lib.compareInt a b < 0) ↔ a < b := by
  unfold Lib.compareInt
  by_cases h1 : a < b
  · simp [h1]
  · by_cases h2 : b < a <;> simp [h1, h2]
theorem lt_idN (x y : ND) : ltOf (fun x y : ND => Lib.compareInt x.id y.id) x y = decide (x.id < y.id) := by
  unfold ltOf
  exact decide_eq_decide.2 (cmp_lt _ _)
theorem swo_idN : SWO (ltOf fun x y : ND => Lib.compareInt x.id y.id) where
  irrefl x := by rw [lt_idN]; simp
  trans x y z h1 h2 := by rw [lt_idN] at *; simp at *; omega
  ntrans x y z h1 h2 := by rw [lt_idN] at *; simp at *; omega
set_option maxRecDepth 100000 in
set_option maxHeartbeats 3200000 in
theorem closure_N (x y : ND) (W : World) : Calls Tryd.prog 26 #[.agg (cellsND x).toArray, .agg (cellsND y).toArray] W fun e w' => e = .returned (.int .i64 (Lib.compareInt x.id y.id)) ∧ ∃ q os', w' = grow (W.drewN q) os' := by
  have hcon := fun W' => AnyG.cmp_Compare_int Tryd.cmpI x.id y.id W'
  change ∀ W', Calls Tryd.prog 27 _ _ _ at hcon
  generalize Lib.compareInt x.id y.id = r at hcon ⊢
  show Calls Tryd.prog 26 #[.agg #[.int .i64 x.id, .string x.lb, .slice x.A x.qs.length x.c], .agg #[.int .i64 y.id, .string y.lb, .slice y.A y.qs.length y.c]] W _
  go_enter Tryd.func26, Tryd.ntmps26
  go_wp2_with (go_at_call 27; refine (hcon _).mono ?_; rintro e w' ⟨rfl, rfl⟩)
  go_ret
  exact ⟨rfl, 0, _, by rw [alloc_eq_grow, alloc_eq_grow, grow_grow]; rfl⟩
/-- The records behind it are those ahead of it, their IDs in order. -/
theorem sort_N (W : World) (B g n c : Nat) (l : List ND) (hn : n = l.length) (ho : W.ownsRow B 52 3 (.slice (some ⟨g, 0, none⟩) n c) n (l.flatMap cellsND)) (hsz : n < 4611686018427387904) :
    Calls Tryd.prog 25 #[.slice (some ⟨g, 0, none⟩) n c, .func (.func 26) #[] #[]] W fun e w' => e = .returned (.tuple #[]) ∧ ∃ l2 : List ND, l2.Perm l ∧ l2.Pairwise (fun a b => a.id ≤ b.id) ∧ w'.ownsRow B 52 3 (.slice (some ⟨g, 0, none⟩) n c) n (l2.flatMap cellsND) ∧ W.grownBy w' (some g) := by
  have eg : ∀ args w, (callFunc 26 args).run Tryd.prog w = .ok (.enter 26 args) w := enters_of Tryd.func26 (by kernel_rfl) rfl
  have hF : flatK cellsND 3 l.toArray = (l.flatMap cellsND).toArray := by
    have h := flatK_list cellsND 3 cellsND_len (by decide) l.toArray
    have h2 := congrArg List.toArray h
    rw [Array.toArray_toList] at h2
    exact h2
  have hH : HoldsK cellsND 3 W g 0 l.toArray := by
    unfold HoldsK
    rw [hF]
    exact holds_own (by simpa using ho)
  have hgl := (ho.lt g rfl).2
  have hcon := AnyQ.slices_SortFunc Tryd.sortN 3 Tryd.isAgg52 Tryd.sizeOf52 cellsND cellsND_len (fun x v hv => oneN [x] v (by simpa using hv)) (fun x y => Lib.compareInt x.id y.id) swo_idN 26 #[] g 0 c l.toArray W eg (fun _ _ _ _ x y => closure_N x y _) hH hgl (by simpa [hn] using hsz)
  change Calls Tryd.prog 25 _ _ _ at hcon
  have hsz2 : l.toArray.size = n := by simp [hn]
  rw [hsz2] at hcon
  refine hcon.mono ?_
  rintro e w' ⟨rfl, d', m, os, hp, hs, rfl⟩
  have hds : d'.size = n := by rw [hp.1, hsz2]
  refine ⟨rfl, d'.toList, ?_, ?_, ?_, grown_sorted _⟩
  · have h := hp.2.2
    rw [← hds] at h
    simp only [Array.extract_size] at h
    have h2 : (l.toArray.extract 0 d'.size).toList = l := by rw [hds, ← hsz2]; simp
    rw [h2] at h
    exact h
  · rw [List.pairwise_iff_getElem]
    intro i j hi hj hij
    have h := hs i j (Nat.zero_le _) hij (by rw [← hds]; simpa using hj)
    rw [lt_idN] at h
    have hi2 : i < d'.size := by simpa using hi
    have hj2 : j < d'.size := by simpa using hj
    rw [getElem!_pos _ i hi2, getElem!_pos _ j hj2] at h
    simpa using h
  · have h := own_sorted (m := m) (os := os) (F := flatK cellsND 3 d') ho (by rw [size_flatK, hds])
    rw [flatK_list cellsND 3 cellsND_len (by decide) d'] at h
    exact h
theorem lt_idE (x y : ED) : ltOf (fun x y : ED => Lib.compareInt x.id y.id) x y = decide (x.id < y.id) := by
  unfold ltOf
  exact decide_eq_decide.2 (cmp_lt _ _)
theorem swo_idE : SWO (ltOf fun x y : ED => Lib.compareInt x.id y.id) where
  irrefl x := by rw [lt_idE]; simp
  trans x y z h1 h2 := by rw [lt_idE] at *; simp at *; omega
  ntrans x y z h1 h2 := by rw [lt_idE] at *; simp at *; omega
set_option maxRecDepth 100000 in
set_option maxHeartbeats 3200000 in
theorem closure_E (x y : ED) (W : World) : Calls Tryd.prog 29 #[.agg (cellsED x).toArray, .agg (cellsED y).toArray] W fun e w' => e = .returned (.int .i64 (Lib.compareInt x.id y.id)) ∧ ∃ q os', w' = grow (W.drewN q) os' := by
  have hcon := fun W' => AnyG.cmp_Compare_int Tryd.cmpI x.id y.id W'
  change ∀ W', Calls Tryd.prog 27 _ _ _ at hcon
  generalize Lib.compareInt x.id y.id = r at hcon ⊢
  show Calls Tryd.prog 29 #[.agg #[.int .i64 x.id, .string x.lb, .int .i64 x.f, .int .i64 x.t, .slice x.A x.qs.length x.c], .agg #[.int .i64 y.id, .string y.lb, .int .i64 y.f, .int .i64 y.t, .slice y.A y.qs.length y.c]] W _
  go_enter Tryd.func29, Tryd.ntmps29
  go_wp2_with (go_at_call 27; refine (hcon _).mono ?_; rintro e w' ⟨rfl, rfl⟩)
  go_ret
  exact ⟨rfl, 0, _, by rw [alloc_eq_grow, alloc_eq_grow, grow_grow]; rfl⟩
/-- The records behind it are those ahead of it, their IDs in order. -/
theorem sort_E (W : World) (B g n c : Nat) (l : List ED) (hn : n = l.length) (ho : W.ownsRow B 55 5 (.slice (some ⟨g, 0, none⟩) n c) n (l.flatMap cellsED)) (hsz : n < 4611686018427387904) :
    Calls Tryd.prog 28 #[.slice (some ⟨g, 0, none⟩) n c, .func (.func 29) #[] #[]] W fun e w' => e = .returned (.tuple #[]) ∧ ∃ l2 : List ED, l2.Perm l ∧ l2.Pairwise (fun a b => a.id ≤ b.id) ∧ w'.ownsRow B 55 5 (.slice (some ⟨g, 0, none⟩) n c) n (l2.flatMap cellsED) ∧ W.grownBy w' (some g) := by
  have eg : ∀ args w, (callFunc 29 args).run Tryd.prog w = .ok (.enter 29 args) w := enters_of Tryd.func29 (by kernel_rfl) rfl
  have hF : flatK cellsED 5 l.toArray = (l.flatMap cellsED).toArray := by
    have h := flatK_list cellsED 5 cellsED_len (by decide) l.toArray
    have h2 := congrArg List.toArray h
    rw [Array.toArray_toList] at h2
    exact h2
  have hH : HoldsK cellsED 5 W g 0 l.toArray := by
    unfold HoldsK
    rw [hF]
    exact holds_own (by simpa using ho)
  have hgl := (ho.lt g rfl).2
  have hcon := AnyQ.slices_SortFunc Tryd.sortE 5 Tryd.isAgg55 Tryd.sizeOf55 cellsED cellsED_len (fun x v hv => oneE [x] v (by simpa using hv)) (fun x y => Lib.compareInt x.id y.id) swo_idE 29 #[] g 0 c l.toArray W eg (fun _ _ _ _ x y => closure_E x y _) hH hgl (by simpa [hn] using hsz)
  change Calls Tryd.prog 28 _ _ _ at hcon
  have hsz2 : l.toArray.size = n := by simp [hn]
  rw [hsz2] at hcon
  refine hcon.mono ?_
  rintro e w' ⟨rfl, d', m, os, hp, hs, rfl⟩
  have hds : d'.size = n := by rw [hp.1, hsz2]
  refine ⟨rfl, d'.toList, ?_, ?_, ?_, grown_sorted _⟩
  · have h := hp.2.2
    rw [← hds] at h
    simp only [Array.extract_size] at h
    have h2 : (l.toArray.extract 0 d'.size).toList = l := by rw [hds, ← hsz2]; simp
    rw [h2] at h
    exact h
  · rw [List.pairwise_iff_getElem]
    intro i j hi hj hij
    have h := hs i j (Nat.zero_le _) hij (by rw [← hds]; simpa using hj)
    rw [lt_idE] at h
    have hi2 : i < d'.size := by simpa using hi
    have hj2 : j < d'.size := by simpa using hj
    rw [getElem!_pos _ i hi2, getElem!_pos _ j hj2] at h
    simpa using h
  · have h := own_sorted (m := m) (os := os) (F := flatK cellsED 5 d') ho (by rw [size_flatK, hds])
    rw [flatK_list cellsED 5 cellsED_len (by decide) d'] at h
    exact h
end Go.Proofs.YtffifhinhemkdaaDoor
