/- Appends of records, as a region that draws its order takes them. -/
import Derived.Test.YtffifhinhemkdaaDoorRgApp
import Derived.Test.YtffifhinhemkdaaDoorRegS
import Derived.Laws.OwnMore
import Derived.Deep.Cut
set_option linter.unusedVariables false
set_option linter.unusedSimpArgs false
namespace Go.Proofs.YtffifhinhemkdaaDoor
open Go.RowKit

theorem of_if {c : Prop} [Decidable c] {A B : Prop} (hc : c) (h : A) : if c then A else B := by rw [if_pos hc]; exact h
theorem name_world {P : Program} {md : Region.Mode} {ops : Array Oper} {Q : Exit → Act → World → Prop} {S : World → Prop} {fuel : Nat} {listed : Array Bool} {a : Act} {F : World → Prop} {W0 : World} (h0 : F W0)
    (h : ∀ W, F W → wpAnyH P md ops Q S fuel listed a W) : wpAnyH P md ops Q S fuel listed a W0 := h W0 h0
/-- Either of two may come. -/
theorem two_step {P : Program} {ops : Array Oper} {Q : Exit → Act → World → Prop} {S : World → Prop} {md : Region.Mode} {i j : Nat} {oi oj : Oper} {fuel : Nat} {listed : Array Bool} {a : Act} {w : World} (hr : Region.ready md ops listed = [i, j]) (hi : nthOp ops.toList i = some oi) (hj : nthOp ops.toList j = some oj)
    (h : ∀ K' : Act → World → Prop, Shut (∀ a w, S w → (S w → wpAnyH P md ops Q S fuel (listed.setIfInBounds i true) a w) → K' a w) → if Region.wanted oi (yielded ops a.tmps) = true then Oper.wp P oi a w K' Q else K' (a.put oi.dst undef) w)
    (h2 : ∀ K' : Act → World → Prop, Shut (∀ a w, S w → (S w → wpAnyH P md ops Q S fuel (listed.setIfInBounds j true) a w) → K' a w) → if Region.wanted oj (yielded ops a.tmps) = true then Oper.wp P oj a w K' Q else K' (a.put oj.dst undef) w) :
    wpAnyH P md ops Q S (fuel + 1) listed a w :=
  wpAnyH_ready hr (by simp) (AllReadyH.cons (nthOp_at hi) h (AllReadyH.cons (nthOp_at hj) h2 AllReadyH.nil))
theorem grow_below {B : Nat} {w w' : World} {row : Option Nat} (hB : B ≤ w.heap.size) (hg : w.grownBy w' row) (hr : ∀ k, row = some k → B ≤ k) : Below B w w' :=
  ⟨hg.os, hg.tape, hg.output, hg.size, fun k hk => hg.block k (by omega) (fun e => by have := hr k e.symm; omega)⟩
theorem below_alloc_ {B : Nat} {w W : World} (h : Below B w W) (hB : B ≤ w.heap.size) (o : Obj) : Below B w (W.alloc o) := h.alloc (Nat.le_trans hB h.size) o
theorem own_empty_E (W : World) (B : Nat) (hB : B ≤ W.heap.size) : (W.alloc (.cells #[] 55)).ownsRow B 55 5 (.slice (some ⟨W.heap.size, 0, none⟩) 0 0) 0 [] :=
  ⟨by simp, .inr ⟨W.heap.size, 0, #[], rfl, hB, by simpa using heap_alloc_new W _, Nat.le_refl _, by decide, by simp, by simp⟩⟩
/-- All of a row that came in, put behind an empty row. -/
theorem app_all_E {W : World} {o : Oper} {a : Act} {K : Act → World → Prop} {Q : Exit → Act → World → Prop} (s x : Operand)
    (ho : o.op = .call { callee := .builtin .append, args := #[s, x], argTypes := #[26, 26] }) (B : Nat) (v : Value) (hs : a.eval s = v) (hown : W.ownsRow B 55 5 v 0 [])
    (A : Option Addr) (l : List ED) (n c : Nat) (hn : n = l.length) (hx : a.eval x = .slice A n c) (hA : A = none → c = 0) (hr : ReadsE W A l) (hb : n ≤ 2199023255551) (hB : B ≤ W.heap.size)
    (h : ∀ v' w', w'.ownsRow B 55 5 v' n (l.flatMap cellsED) → Below B W w' → W.grownBy w' v.ownBlock → K (a.put o.dst v') w') : o.wp Tryd.prog a W K Q := by
  subst hn
  obtain ⟨i, hi, hz, hsz, hby⟩ := info_parts info_edge
  cases A with
  | none =>
    have h0 : l = [] := by
      cases l with
      | nil => rfl
      | cons y r => obtain ⟨ad, e, _⟩ := hr.row 0 (by simp); cases e
    subst h0
    obtain rfl := hA rfl
    have hrun := run_append_owned_none (P := Tryd.prog) (w := W) B 26 o.type 55 i 5 Tryd.underlying26 hi v 0 [] hown
    unfold Oper.wp
    simp only [List.length_nil] at hx
    simp [execOp, ho, resolve, invoke, builtin, hs, hx, hrun, Result.andThen]
    exact h v W hown (Below.refl _ _) (World.grownBy.refl _ _)
  | some ad =>
    have hl := flat_len cellsED 5 cellsED_len l
    refine wp_append_own W s x 26 ho B 55 i _ 5 64 Tryd.underlying26 hi hz hsz hby rfl (by decide) v 0 [] hs hown ad l.length c (l.flatMap cellsED) hx hl (newsE hr) (oneE l) (by unfold maxLen; omega) (by omega) hB (fun v' w' h2 h3 _ => ?_)
    rw [Nat.zero_add, List.nil_append] at h2
    exact h v' w' h2 (grow_below hB h3 (fun k e => (hown.lt k e).1)) h3
theorem app_all_EL {W : World} {ops : Array Oper} {rest : List Oper} {o : Oper} {a : Act} {Q : Exit → Act → World → Prop} (hgd : o.guard = none) (s x : Operand)
    (ho : o.op = .call { callee := .builtin .append, args := #[s, x], argTypes := #[26, 26] }) (B : Nat) (v : Value) (hs : a.eval s = v) (hown : W.ownsRow B 55 5 v 0 [])
    (A : Option Addr) (l : List ED) (n c : Nat) (hn : n = l.length) (hx : a.eval x = .slice A n c) (hA : A = none → c = 0) (hr : ReadsE W A l) (hb : n ≤ 2199023255551) (hB : B ≤ W.heap.size)
    (h : ∀ v' w', w'.ownsRow B 55 5 v' n (l.flatMap cellsED) → Below B W w' → wpList Tryd.prog ops Q rest (a.put o.dst v') w') : wpList Tryd.prog ops Q (o :: rest) a W :=
  wpList_plain hgd fun _ hK => app_all_E s x ho B v hs hown A l n c hn hx hA hr hb hB (fun v' w' h1 h2 _ => hK _ _ (h v' w' h1 h2))
/-- One record behind a row. -/
theorem app_one_E {W : World} {o : Oper} {a : Act} {K : Act → World → Prop} {Q : Exit → Act → World → Prop} (s x : Operand)
    (ho : o.op = .call { callee := .builtin .append, args := #[s, x], argTypes := #[26, 26] }) (B : Nat) (v : Value) (n : Nat) (xs : List Value) (hs : a.eval s = v) (hown : W.ownsRow B 55 5 v n xs)
    (g : Nat) (e : ED) (hx : a.eval x = .slice (some ⟨g, 0, none⟩) 1 1) (hbox : EBox W g (cellsED e).toArray) (hb : n ≤ 2199023255551) (hB : B ≤ W.heap.size)
    (h : ∀ v' w', w'.ownsRow B 55 5 v' (n + 1) (xs ++ cellsED e) → Below B W w' → W.grownBy w' v.ownBlock → K (a.put o.dst v') w') : o.wp Tryd.prog a W K Q := by
  obtain ⟨i, hi, hz, hsz, hby⟩ := info_parts info_edge
  refine wp_append_own W s x 26 ho B 55 i _ 5 64 Tryd.underlying26 hi hz hsz hby rfl (by decide) v n xs hs hown ⟨g, 0, none⟩ 1 1 (cellsED e) hx (by rw [cellsED_len]) (fun j u hu => ?_) (fun u hu => oneE [e] u (by simpa using hu)) (by unfold maxLen; omega) (by omega) hB (fun v' w' h2 h3 _ => h v' w' h2 (grow_below hB h3 (fun k e => (hown.lt k e).1)) h3)
  rw [add_zero_, hbox.cells j]
  simpa using hu
theorem app_one_EL {W : World} {ops : Array Oper} {rest : List Oper} {o : Oper} {a : Act} {Q : Exit → Act → World → Prop} (hgd : o.guard = none) (s x : Operand)
    (ho : o.op = .call { callee := .builtin .append, args := #[s, x], argTypes := #[26, 26] }) (B : Nat) (v : Value) (n : Nat) (xs : List Value) (hs : a.eval s = v) (hown : W.ownsRow B 55 5 v n xs)
    (g : Nat) (e : ED) (hx : a.eval x = .slice (some ⟨g, 0, none⟩) 1 1) (hbox : EBox W g (cellsED e).toArray) (hb : n ≤ 2199023255551) (hB : B ≤ W.heap.size)
    (h : ∀ v' w', w'.ownsRow B 55 5 v' (n + 1) (xs ++ cellsED e) → Below B W w' → W.grownBy w' v.ownBlock → wpList Tryd.prog ops Q rest (a.put o.dst v') w') : wpList Tryd.prog ops Q (o :: rest) a W :=
  wpList_plain hgd fun _ hK => app_one_E s x ho B v n xs hs hown g e hx hbox hb hB (fun v' w' h1 h2 h3 => hK _ _ (h v' w' h1 h2 h3))
theorem read_more_E {W : World} {B n : Nat} {v : Value} {l : List ED} {e : ED} (hn : n = l.length) (h : W.ownsRow B 55 5 v (n + 1) (l.flatMap cellsED ++ cellsED e)) (hb : n ≤ 2199023255551) (hl : ∀ x ∈ l, goodED W x) (he : goodED W e) : ∃ A c, v = .slice A (n + 1) c ∧ ReadsE W A (l ++ [e]) := by
  subst hn
  have hlen : (l ++ [e]).length = l.length + 1 := by simp
  have hfl : (l ++ [e]).flatMap cellsED = l.flatMap cellsED ++ cellsED e := by simp
  rw [← hlen, ← hfl] at h
  obtain ⟨A, c, hv, hr⟩ := readsE_own h (by omega) (fun x hx => by
    rcases List.mem_append.1 hx with hx | hx
    · exact hl x hx
    · obtain rfl : x = e := by simpa using hx
      exact he)
  exact ⟨A, c, by rw [hv, hlen], hr⟩
theorem ReadsG.all_E {W : World} {A : Option Addr} {l : List ED} (h : ReadsE W A l) : ∀ x ∈ l, goodED W x := fun x hx => ⟨h.txt x hx, h.num x hx, h.props x hx⟩
theorem goodED.below {W W' : World} {x : ED} (h : goodED W x) (hb : Below W.heap.size W W') : goodED W' x := ⟨h.1, h.2.1, h.2.2.below hb⟩
theorem own_empty_N (W : World) (B : Nat) (hB : B ≤ W.heap.size) : (W.alloc (.cells #[] 52)).ownsRow B 52 3 (.slice (some ⟨W.heap.size, 0, none⟩) 0 0) 0 [] :=
  ⟨by simp, .inr ⟨W.heap.size, 0, #[], rfl, hB, by simpa using heap_alloc_new W _, Nat.le_refl _, by decide, by simp, by simp⟩⟩
/-- All of a row that came in, put behind an empty row. -/
theorem app_all_N {W : World} {o : Oper} {a : Act} {K : Act → World → Prop} {Q : Exit → Act → World → Prop} (s x : Operand)
    (ho : o.op = .call { callee := .builtin .append, args := #[s, x], argTypes := #[25, 25] }) (B : Nat) (v : Value) (hs : a.eval s = v) (hown : W.ownsRow B 52 3 v 0 [])
    (A : Option Addr) (l : List ND) (n c : Nat) (hn : n = l.length) (hx : a.eval x = .slice A n c) (hA : A = none → c = 0) (hr : ReadsN W A l) (hb : n ≤ 2932031007401) (hB : B ≤ W.heap.size)
    (h : ∀ v' w', w'.ownsRow B 52 3 v' n (l.flatMap cellsND) → Below B W w' → W.grownBy w' v.ownBlock → K (a.put o.dst v') w') : o.wp Tryd.prog a W K Q := by
  subst hn
  obtain ⟨i, hi, hz, hsz, hby⟩ := info_parts info_node
  cases A with
  | none =>
    have h0 : l = [] := by
      cases l with
      | nil => rfl
      | cons y r => obtain ⟨ad, e, _⟩ := hr.row 0 (by simp); cases e
    subst h0
    obtain rfl := hA rfl
    have hrun := run_append_owned_none (P := Tryd.prog) (w := W) B 25 o.type 52 i 3 Tryd.underlying25 hi v 0 [] hown
    unfold Oper.wp
    simp only [List.length_nil] at hx
    simp [execOp, ho, resolve, invoke, builtin, hs, hx, hrun, Result.andThen]
    exact h v W hown (Below.refl _ _) (World.grownBy.refl _ _)
  | some ad =>
    have hl := flat_len cellsND 3 cellsND_len l
    refine wp_append_own W s x 25 ho B 52 i _ 3 48 Tryd.underlying25 hi hz hsz hby rfl (by decide) v 0 [] hs hown ad l.length c (l.flatMap cellsND) hx hl (newsN hr) (oneN l) (by unfold maxLen; omega) (by omega) hB (fun v' w' h2 h3 _ => ?_)
    rw [Nat.zero_add, List.nil_append] at h2
    exact h v' w' h2 (grow_below hB h3 (fun k e => (hown.lt k e).1)) h3
theorem app_all_NL {W : World} {ops : Array Oper} {rest : List Oper} {o : Oper} {a : Act} {Q : Exit → Act → World → Prop} (hgd : o.guard = none) (s x : Operand)
    (ho : o.op = .call { callee := .builtin .append, args := #[s, x], argTypes := #[25, 25] }) (B : Nat) (v : Value) (hs : a.eval s = v) (hown : W.ownsRow B 52 3 v 0 [])
    (A : Option Addr) (l : List ND) (n c : Nat) (hn : n = l.length) (hx : a.eval x = .slice A n c) (hA : A = none → c = 0) (hr : ReadsN W A l) (hb : n ≤ 2932031007401) (hB : B ≤ W.heap.size)
    (h : ∀ v' w', w'.ownsRow B 52 3 v' n (l.flatMap cellsND) → Below B W w' → wpList Tryd.prog ops Q rest (a.put o.dst v') w') : wpList Tryd.prog ops Q (o :: rest) a W :=
  wpList_plain hgd fun _ hK => app_all_N s x ho B v hs hown A l n c hn hx hA hr hb hB (fun v' w' h1 h2 _ => hK _ _ (h v' w' h1 h2))
/-- One record behind a row. -/
theorem app_one_N {W : World} {o : Oper} {a : Act} {K : Act → World → Prop} {Q : Exit → Act → World → Prop} (s x : Operand)
    (ho : o.op = .call { callee := .builtin .append, args := #[s, x], argTypes := #[25, 25] }) (B : Nat) (v : Value) (n : Nat) (xs : List Value) (hs : a.eval s = v) (hown : W.ownsRow B 52 3 v n xs)
    (g : Nat) (e : ND) (hx : a.eval x = .slice (some ⟨g, 0, none⟩) 1 1) (hbox : NBox W g (cellsND e).toArray) (hb : n ≤ 2932031007401) (hB : B ≤ W.heap.size)
    (h : ∀ v' w', w'.ownsRow B 52 3 v' (n + 1) (xs ++ cellsND e) → Below B W w' → W.grownBy w' v.ownBlock → K (a.put o.dst v') w') : o.wp Tryd.prog a W K Q := by
  obtain ⟨i, hi, hz, hsz, hby⟩ := info_parts info_node
  refine wp_append_own W s x 25 ho B 52 i _ 3 48 Tryd.underlying25 hi hz hsz hby rfl (by decide) v n xs hs hown ⟨g, 0, none⟩ 1 1 (cellsND e) hx (by rw [cellsND_len]) (fun j u hu => ?_) (fun u hu => oneN [e] u (by simpa using hu)) (by unfold maxLen; omega) (by omega) hB (fun v' w' h2 h3 _ => h v' w' h2 (grow_below hB h3 (fun k e => (hown.lt k e).1)) h3)
  rw [add_zero_, hbox.cells j]
  simpa using hu
theorem app_one_NL {W : World} {ops : Array Oper} {rest : List Oper} {o : Oper} {a : Act} {Q : Exit → Act → World → Prop} (hgd : o.guard = none) (s x : Operand)
    (ho : o.op = .call { callee := .builtin .append, args := #[s, x], argTypes := #[25, 25] }) (B : Nat) (v : Value) (n : Nat) (xs : List Value) (hs : a.eval s = v) (hown : W.ownsRow B 52 3 v n xs)
    (g : Nat) (e : ND) (hx : a.eval x = .slice (some ⟨g, 0, none⟩) 1 1) (hbox : NBox W g (cellsND e).toArray) (hb : n ≤ 2932031007401) (hB : B ≤ W.heap.size)
    (h : ∀ v' w', w'.ownsRow B 52 3 v' (n + 1) (xs ++ cellsND e) → Below B W w' → W.grownBy w' v.ownBlock → wpList Tryd.prog ops Q rest (a.put o.dst v') w') : wpList Tryd.prog ops Q (o :: rest) a W :=
  wpList_plain hgd fun _ hK => app_one_N s x ho B v n xs hs hown g e hx hbox hb hB (fun v' w' h1 h2 h3 => hK _ _ (h v' w' h1 h2 h3))
theorem read_more_N {W : World} {B n : Nat} {v : Value} {l : List ND} {e : ND} (hn : n = l.length) (h : W.ownsRow B 52 3 v (n + 1) (l.flatMap cellsND ++ cellsND e)) (hb : n ≤ 2932031007401) (hl : ∀ x ∈ l, goodND W x) (he : goodND W e) : ∃ A c, v = .slice A (n + 1) c ∧ ReadsN W A (l ++ [e]) := by
  subst hn
  have hlen : (l ++ [e]).length = l.length + 1 := by simp
  have hfl : (l ++ [e]).flatMap cellsND = l.flatMap cellsND ++ cellsND e := by simp
  rw [← hlen, ← hfl] at h
  obtain ⟨A, c, hv, hr⟩ := readsN_own h (by omega) (fun x hx => by
    rcases List.mem_append.1 hx with hx | hx
    · exact hl x hx
    · obtain rfl : x = e := by simpa using hx
      exact he)
  exact ⟨A, c, by rw [hv, hlen], hr⟩
theorem ReadsG.all_N {W : World} {A : Option Addr} {l : List ND} (h : ReadsN W A l) : ∀ x ∈ l, goodND W x := fun x hx => ⟨h.txt x hx, h.props x hx⟩
theorem goodND.below {W W' : World} {x : ND} (h : goodND W x) (hb : Below W.heap.size W W') : goodND W' x := ⟨h.1, h.2.below hb⟩
theorem own_set {W : World} {B : Nat} {e : TypeId} {z : Nat} {v : Value} {n : Nat} {xs : List Value} (h : W.ownsRow B e z v n xs) (p : Addr) (u : Value) (hp : p.block < B) : (W.setCell p u).ownsRow B e z v n xs := by
  obtain ⟨hl, hs⟩ := h
  refine ⟨hl, ?_⟩
  rcases hs with h0 | ⟨g, cap, cur, rfl, hg, hh, hr⟩
  · exact .inl h0
  · exact .inr ⟨g, cap, cur, rfl, hg, (heap_setCell_other _ _ _ _ (fun e2 => by subst e2; omega)).trans hh, hr⟩
theorem GBox.put {W : World} {b : Nat} {cs : Array Value} (h : GBox W b cs) (j : Nat) (v : Value) : GBox (W.setCell ⟨b, j, none⟩ v) b (cs.setIfInBounds j v) := heap_setCell_same W b j cs _ v h
theorem GBox.free {W : World} {b : Nat} {cs : Array Value} (h : GBox W b cs) : ∀ j, W.frozen? ⟨b, j, none⟩ = false := fun j => Lib.frozen_of_heap h j
end Go.Proofs.YtffifhinhemkdaaDoor
