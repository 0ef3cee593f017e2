/- Words for the document's Sorted. -/
import Derived.Test.YtffifhinhemkdaaDoorRkF
import Derived.Test.YtffifhinhemkdaaDoorRgTrn0
import Derived.Test.YtffifhinhemkdaaDoorRgSorted
import Derived.Test.YtffifhinhemkdaaDoorRgPl5
set_option linter.unusedVariables false
set_option linter.unusedSimpArgs false
namespace Go.Proofs.YtffifhinhemkdaaDoor
open Go.RowKit Go.Maps

theorem ins_sorted {α : Type} (key : α → Int) (d : α) (l : List α) (x : α) (a : Nat) (ha : a ≤ l.length) (hs : l.Pairwise (fun p q => key p ≤ key q)) (hlo : a = 0 ∨ key (l.getD (a - 1) d) ≤ key x) (hhi : ∀ k, a ≤ k → k < l.length → key x < key (l.getD k d)) :
    (l.take a ++ [x] ++ l.drop a).Pairwise (fun p q => key p ≤ key q) := by
  have hs2 := hs
  rw [← List.take_append_drop a l, List.pairwise_append] at hs2
  obtain ⟨h1, h2, h3⟩ := hs2
  have hx : ∀ p ∈ l.take a, key p ≤ key x := fun p hp => by
    rcases hlo with h0 | hl
    · subst h0
      simp at hp
    · cases a with
      | zero => simp at hp
      | succ b =>
        have e := take_getD l d b (by omega)
        rw [e, List.pairwise_append] at h1
        rw [e] at hp
        rcases List.mem_append.1 hp with hp | hp
        · exact Int.le_trans (h1.2.2 p hp _ (List.mem_singleton.2 rfl)) hl
        · rw [List.mem_singleton.1 hp]
          exact hl
  have hy : ∀ q ∈ l.drop a, key x ≤ key q := fun q hq => by
    obtain ⟨i, hi, e⟩ := List.mem_iff_getElem.1 hq
    rw [List.length_drop] at hi
    have h := hhi (a + i) (by omega) (by omega)
    rw [List.getElem_drop] at e
    rw [List.getD_eq_getElem?_getD, List.getElem?_eq_getElem (by omega), Option.getD_some, e] at h
    omega
  rw [List.pairwise_append, List.pairwise_append]
  refine ⟨⟨h1, List.pairwise_singleton _ _, fun p hp q hq => ?_⟩, h2, fun p hp q hq => ?_⟩
  · rw [List.mem_singleton.1 hq]
    exact hx p hp
  · rcases List.mem_append.1 hp with hp | hp
    · exact h3 p hp q hq
    · rw [List.mem_singleton.1 hp]
      exact hy q hq
theorem ReadsQ.off {W : World} {A : Option Addr} {l : List QD} (h : ReadsQ W A l) {b : Nat} {cs : Array Value} (hb : GBox W b cs) (hs : Slices cs) : ∀ ad, A = some ad → l ≠ [] → ad.block ≠ b := fun ad e hne => by
  obtain ⟨ad2, e2, hh⟩ := h.row 0 (List.length_pos_iff.2 hne)
  rw [e] at e2
  cases e2
  have h1 := off_box hb hs hh.spot hh.c0 (fun A n c e => by cases e)
  rw [block_add] at h1
  exact h1
/-- A record whose properties' paths lie in the world at hand. -/
def fineN (w W : World) (x : ND) : Prop := goodND W x ∧ ∀ q ∈ x.qs, ReadsI w q.v.A q.v.p
def fineE (w W : World) (x : ED) : Prop := goodED W x ∧ ∀ q ∈ x.qs, ReadsI w q.v.A q.v.p
theorem fineN.below {w W W' : World} {x : ND} (h : fineN w W x) (hb : Below W.heap.size W W') : fineN w W' x := ⟨h.1.below hb, h.2⟩
theorem fineE.below {w W W' : World} {x : ED} (h : fineE w W x) (hb : Below W.heap.size W W') : fineE w W' x := ⟨h.1.below hb, h.2⟩
theorem fineN.set {w W : World} {x : ND} {b i : Nat} {cs : Array Value} {v : Value} (h : fineN w W x) (hb : GBox W b cs) (hs : Slices cs) (hl : Below w.heap.size w (W.setCell ⟨b, i, none⟩ v)) : fineN w (W.setCell ⟨b, i, none⟩ v) x :=
  ⟨⟨h.1.1, props_keep h.1.2 h.2 hl (fun ad e hne => heap_setCell_other _ ⟨b, i, none⟩ _ _ (h.1.2.off hb hs ad e hne))⟩, h.2⟩
theorem fineE.set {w W : World} {x : ED} {b i : Nat} {cs : Array Value} {v : Value} (h : fineE w W x) (hb : GBox W b cs) (hs : Slices cs) (hl : Below w.heap.size w (W.setCell ⟨b, i, none⟩ v)) : fineE w (W.setCell ⟨b, i, none⟩ v) x :=
  ⟨⟨h.1.1, h.1.2.1, props_keep h.1.2.2 h.2 hl (fun ad e hne => heap_setCell_other _ ⟨b, i, none⟩ _ _ (h.1.2.2.off hb hs ad e hne))⟩, h.2⟩
theorem own_set_raw {W : World} {B n st b i : Nat} {e : TypeId} {v u : Value} {xs : List Value} {cs : Array Value} (h : W.ownsRow B e st v n xs) (hb : GBox W b cs) (hne : e ≠ 28) : (W.setCell ⟨b, i, none⟩ u).ownsRow B e st v n xs :=
  own_keep h (fun k hk => heap_setCell_other _ ⟨b, i, none⟩ _ _ (fun e2 => own_tag h hb hne (by rw [hk]; exact congrArg some e2)))
/-- A record's cell in a row of the call's own. -/
theorem own_id_N {W : World} {B n c k : Nat} {A : Option Addr} {l : List ND} (h : W.ownsRow B 52 3 (.slice A n c) n (l.flatMap cellsND)) (hk : k < n) (hn : n = l.length) : ∃ g, A = some ⟨g, 0, none⟩ ∧ W.cell? ⟨g, k * 3, none⟩ = some (.int .i64 (l.getD k ND.zero).id) := by
  obtain ⟨g, hAg⟩ : ∃ g, A = some ⟨g, 0, none⟩ := by
    rcases h.2 with ⟨e, e2⟩ | ⟨g, cap, cur, e, _⟩
    · omega
    · exact ⟨g, (Value.slice.inj e).1⟩
  subst hAg
  have h2 := h.cells (g := g) rfl (k * 3 + 0) _ (flat_at cellsND 3 ND.zero cellsND_len l k 0 (by omega) (by decide))
  rw [add_zero_] at h2
  exact ⟨g, rfl, h2⟩
theorem own_id_E {W : World} {B n c k : Nat} {A : Option Addr} {l : List ED} (h : W.ownsRow B 55 5 (.slice A n c) n (l.flatMap cellsED)) (hk : k < n) (hn : n = l.length) : ∃ g, A = some ⟨g, 0, none⟩ ∧ W.cell? ⟨g, k * 5, none⟩ = some (.int .i64 (l.getD k ED.zero).id) := by
  obtain ⟨g, hAg⟩ : ∃ g, A = some ⟨g, 0, none⟩ := by
    rcases h.2 with ⟨e, e2⟩ | ⟨g, cap, cur, e, _⟩
    · omega
    · exact ⟨g, (Value.slice.inj e).1⟩
  subst hAg
  have h2 := h.cells (g := g) rfl (k * 5 + 0) _ (flat_at cellsED 5 ED.zero cellsED_len l k 0 (by omega) (by decide))
  rw [add_zero_] at h2
  exact ⟨g, rfl, h2⟩
end Go.Proofs.YtffifhinhemkdaaDoor
