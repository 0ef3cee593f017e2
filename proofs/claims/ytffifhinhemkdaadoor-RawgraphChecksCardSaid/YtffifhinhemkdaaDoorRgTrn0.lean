/- Parts of rows, put together: words for the law's turned. -/
import Derived.Test.YtffifhinhemkdaaDoorRgCln
import Derived.Lib.SliceRun
set_option linter.unusedVariables false
set_option linter.unusedSimpArgs false
namespace Go.Proofs.YtffifhinhemkdaaDoor
open Go.RowKit

theorem add_addr (g o i : Nat) : (⟨g, o, none⟩ : Addr).add i = ⟨g, o + i, none⟩ := by
  unfold Addr.add
  split <;> simp_all
theorem getD_take {α : Type} (l : List α) (d : α) (k j : Nat) (h : j < k) : (l.take k).getD j d = l.getD j d := by
  rw [List.getD_eq_getElem?_getD, List.getD_eq_getElem?_getD, List.getElem?_take_of_lt h]
theorem getD_drop {α : Type} (l : List α) (d : α) (k j : Nat) : (l.drop k).getD j d = l.getD (k + j) d := by
  rw [List.getD_eq_getElem?_getD, List.getD_eq_getElem?_getD, List.getElem?_drop]
/-- Bytes that came in. -/
structure Bytes (W : World) (A : Option Addr) (l : List Int) : Prop where
  len : l.length ≤ 9223372036854775807
  row : ∀ j, j < l.length → ∃ ad, A = some ad ∧ ad.block < W.heap.size ∧ W.cell? (ad.add j) = some (.int .u8 (l.getD j 0))
  num : ∀ z ∈ l, 0 ≤ z ∧ z < 256
theorem Bytes.below {W W' : World} {A : Option Addr} {l : List Int} (h : Bytes W A l) (hb : Below W.heap.size W W') : Bytes W' A l :=
  ⟨h.len, fun j hj => by
    obtain ⟨ad, e, h1, h2⟩ := h.row j hj
    refine ⟨ad, e, Nat.lt_of_lt_of_le h1 hb.size, ?_⟩
    rw [hb.cell (p := ad.add j) (by rw [show (ad.add j).block = ad.block by unfold Addr.add; split <;> rfl]; exact h1)]
    exact h2, h.num⟩
theorem ReadsN.take {W : World} {A : Option Addr} {l : List ND} (h : ReadsN W A l) (k : Nat) : ReadsN W A (l.take k) :=
  ⟨by rw [List.length_take]; have := h.len; omega, fun j hj => by
    have h1 : j < k ∧ j < l.length := by rw [List.length_take] at hj; omega
    rw [getD_take l ND.zero k j h1.1]
    exact h.row j h1.2, fun x hx => h.txt x (List.mem_of_mem_take hx), fun x hx => h.props x (List.mem_of_mem_take hx)⟩
theorem ReadsN.drop {W : World} {g : Nat} {l : List ND} (h : ReadsN W (some ⟨g, 0, none⟩) l) (k : Nat) : ReadsN W (some ⟨g, k * 3, none⟩) (l.drop k) :=
  ⟨by rw [List.length_drop]; have := h.len; omega, fun j hj => by
    have h1 : k + j < l.length := by rw [List.length_drop] at hj; omega
    rw [getD_drop]
    obtain ⟨ad, e, hh⟩ := h.row (k + j) h1
    cases e
    refine ⟨_, rfl, ?_⟩
    rw [add_addr] at hh ⊢
    have e2 : 0 + (k + j) * 3 = k * 3 + j * 3 := by rw [Nat.add_mul]; omega
    rw [e2] at hh
    exact hh, fun x hx => h.txt x (List.mem_of_mem_drop hx), fun x hx => h.props x (List.mem_of_mem_drop hx)⟩
theorem ReadsN.none_ {W : World} (A : Option Addr) : ReadsN W A [] := ⟨by simp, fun j hj => absurd hj (by simp), fun x hx => (by cases hx), fun x hx => (by cases hx)⟩
theorem slice_pre_N (A : Option Addr) (i c a : Nat) (ha : a ≤ i) (hc : i ≤ c) (h9 : c ≤ 9223372036854775807) (W : World) : (Instr.slice 25 (.slice A i c) none (some (.int .i64 (a : Int))) none).run Tryd.prog W = .ok (.slice A a c) W := by
  have h3 : (0 : Int) ≤ (a : Int) := by omega
  have h5 : (a : Int) ≤ (c : Int) := by omega
  cases A with
  | none =>
    go_simp
    (try simp_all)
    (try omega)
  | some ad =>
    go_simp
    (try simp_all)
    (try omega)
/-- What stands behind a place of a row. -/
theorem slice_suf_N (g i c a : Nat) (ha : a ≤ i) (hc : i ≤ c) (h9 : c ≤ 9223372036854775807) : ∃ (A2 : Option Addr) (c2 : Nat), (∀ W, (Instr.slice 25 (.slice (some ⟨g, 0, none⟩) i c) (some (.int .i64 (a : Int))) none none).run Tryd.prog W = .ok (.slice A2 (i - a) c2) W) ∧ (A2 = none → c2 = 0) ∧ ∀ (W : World) (l : List ND), l.length = i → ReadsN W (some ⟨g, 0, none⟩) l → ReadsN W A2 (l.drop a) := by
  have h3 : (0 : Int) ≤ (a : Int) := by omega
  have h5 : (a : Int) ≤ (i : Int) := by omega
  by_cases hac : c = a
  · have hia : i = a := by omega
    refine ⟨some ⟨g, 0, none⟩, 0, fun W => ?_, (fun e => by cases e), fun W l hl hr => ?_⟩
    · subst hac
      subst hia
      first | (go_simp; done) | (go_simp; simp_all; done) | (go_simp; try simp_all; omega) | skip
    · rw [← hia, ← hl, List.drop_length]
      exact ReadsN.none_ _
  · have h1 : a < c := by omega
    have ha2 := add_addr g 0 (a * 3)
    refine ⟨some ⟨g, a * 3, none⟩, c - a, fun W => ?_, (fun e => by cases e), fun W l hl hr => hr.drop a⟩
    go_simp
    (try simp_all)
    (try omega)
/-- A row that can be read, put behind a row of the call's own. -/
theorem app_list_N {W : World} {ops : Array Oper} {rest : List Oper} {o : Oper} {a : Act} {Q : Exit → Act → World → Prop} (hgd : o.guard = none) (s x : Operand)
    (ho : o.op = .call { callee := .builtin .append, args := #[s, x], argTypes := #[25, 25] }) (B : Nat) (v : Value) (k : Nat) (xs : List ND) (hs : a.eval s = v) (hown : W.ownsRow B 52 3 v k (xs.flatMap cellsND))
    (A : Option Addr) (l : List ND) (n c : Nat) (hn : n = l.length) (hx : a.eval x = .slice A n c) (hA : A = none → c = 0) (hr : ReadsN W A l) (hb : k + n ≤ 2932031007402) (hB : B ≤ W.heap.size)
    (h : ∀ v' w', w'.ownsRow B 52 3 v' (k + n) ((xs ++ l).flatMap cellsND) → Below B W w' → W.grownBy w' v.ownBlock → wpList Tryd.prog ops Q rest (a.put o.dst v') w') : wpList Tryd.prog ops Q (o :: rest) a W := by
  subst hn
  obtain ⟨i, hi, hz, hsz, hby⟩ := info_parts info_node
  cases A with
  | none =>
    have h0 : l = [] := by
      cases l with
      | nil => rfl
      | cons y r => obtain ⟨ad, e, _⟩ := hr.row 0 (by simp); cases e
    subst h0
    obtain rfl := hA rfl
    refine wpList_append_own_none hgd s x 25 ho B 52 i 3 Tryd.underlying25 hi v k (xs.flatMap cellsND) hs hown hx (h v W ?_ (Below.refl _ _) (World.grownBy.refl _ _))
    rw [List.append_nil]
    exact hown
  | some ad =>
    have hl := flat_len cellsND 3 cellsND_len l
    refine wpList_append_own W hgd s x 25 ho B 52 i _ 3 48 Tryd.underlying25 hi hz hsz hby rfl (by decide) v k (xs.flatMap cellsND) hs hown ad l.length c (l.flatMap cellsND) hx hl (newsN hr) (oneN l) (by unfold maxLen; omega) (by omega) hB (fun v' w' h2 h3 _ => ?_)
    rw [← List.flatMap_append] at h2
    exact h v' w' h2 (grow_below hB h3 (fun k e => (hown.lt k e).1)) h3
theorem ReadsE.take {W : World} {A : Option Addr} {l : List ED} (h : ReadsE W A l) (k : Nat) : ReadsE W A (l.take k) :=
  ⟨by rw [List.length_take]; have := h.len; omega, fun j hj => by
    have h1 : j < k ∧ j < l.length := by rw [List.length_take] at hj; omega
    rw [getD_take l ED.zero k j h1.1]
    exact h.row j h1.2, fun x hx => h.txt x (List.mem_of_mem_take hx), fun x hx => h.num x (List.mem_of_mem_take hx), fun x hx => h.props x (List.mem_of_mem_take hx)⟩
theorem ReadsE.drop {W : World} {g : Nat} {l : List ED} (h : ReadsE W (some ⟨g, 0, none⟩) l) (k : Nat) : ReadsE W (some ⟨g, k * 5, none⟩) (l.drop k) :=
  ⟨by rw [List.length_drop]; have := h.len; omega, fun j hj => by
    have h1 : k + j < l.length := by rw [List.length_drop] at hj; omega
    rw [getD_drop]
    obtain ⟨ad, e, hh⟩ := h.row (k + j) h1
    cases e
    refine ⟨_, rfl, ?_⟩
    rw [add_addr] at hh ⊢
    have e2 : 0 + (k + j) * 5 = k * 5 + j * 5 := by rw [Nat.add_mul]; omega
    rw [e2] at hh
    exact hh, fun x hx => h.txt x (List.mem_of_mem_drop hx), fun x hx => h.num x (List.mem_of_mem_drop hx), fun x hx => h.props x (List.mem_of_mem_drop hx)⟩
theorem ReadsE.none_ {W : World} (A : Option Addr) : ReadsE W A [] := ⟨by simp, fun j hj => absurd hj (by simp), fun x hx => (by cases hx), fun x hx => (by cases hx), fun x hx => (by cases hx)⟩
theorem slice_pre_E (A : Option Addr) (i c a : Nat) (ha : a ≤ i) (hc : i ≤ c) (h9 : c ≤ 9223372036854775807) (W : World) : (Instr.slice 26 (.slice A i c) none (some (.int .i64 (a : Int))) none).run Tryd.prog W = .ok (.slice A a c) W := by
  have h3 : (0 : Int) ≤ (a : Int) := by omega
  have h5 : (a : Int) ≤ (c : Int) := by omega
  cases A with
  | none =>
    go_simp
    (try simp_all)
    (try omega)
  | some ad =>
    go_simp
    (try simp_all)
    (try omega)
/-- What stands behind a place of a row. -/
theorem slice_suf_E (g i c a : Nat) (ha : a ≤ i) (hc : i ≤ c) (h9 : c ≤ 9223372036854775807) : ∃ (A2 : Option Addr) (c2 : Nat), (∀ W, (Instr.slice 26 (.slice (some ⟨g, 0, none⟩) i c) (some (.int .i64 (a : Int))) none none).run Tryd.prog W = .ok (.slice A2 (i - a) c2) W) ∧ (A2 = none → c2 = 0) ∧ ∀ (W : World) (l : List ED), l.length = i → ReadsE W (some ⟨g, 0, none⟩) l → ReadsE W A2 (l.drop a) := by
  have h3 : (0 : Int) ≤ (a : Int) := by omega
  have h5 : (a : Int) ≤ (i : Int) := by omega
  by_cases hac : c = a
  · have hia : i = a := by omega
    refine ⟨some ⟨g, 0, none⟩, 0, fun W => ?_, (fun e => by cases e), fun W l hl hr => ?_⟩
    · subst hac
      subst hia
      first | (go_simp; done) | (go_simp; simp_all; done) | (go_simp; try simp_all; omega) | skip
    · rw [← hia, ← hl, List.drop_length]
      exact ReadsE.none_ _
  · have h1 : a < c := by omega
    have ha2 := add_addr g 0 (a * 5)
    refine ⟨some ⟨g, a * 5, none⟩, c - a, fun W => ?_, (fun e => by cases e), fun W l hl hr => hr.drop a⟩
    go_simp
    (try simp_all)
    (try omega)
/-- A row that can be read, put behind a row of the call's own. -/
theorem app_list_E {W : World} {ops : Array Oper} {rest : List Oper} {o : Oper} {a : Act} {Q : Exit → Act → World → Prop} (hgd : o.guard = none) (s x : Operand)
    (ho : o.op = .call { callee := .builtin .append, args := #[s, x], argTypes := #[26, 26] }) (B : Nat) (v : Value) (k : Nat) (xs : List ED) (hs : a.eval s = v) (hown : W.ownsRow B 55 5 v k (xs.flatMap cellsED))
    (A : Option Addr) (l : List ED) (n c : Nat) (hn : n = l.length) (hx : a.eval x = .slice A n c) (hA : A = none → c = 0) (hr : ReadsE W A l) (hb : k + n ≤ 2199023255552) (hB : B ≤ W.heap.size)
    (h : ∀ v' w', w'.ownsRow B 55 5 v' (k + n) ((xs ++ l).flatMap cellsED) → Below B W w' → W.grownBy w' v.ownBlock → wpList Tryd.prog ops Q rest (a.put o.dst v') w') : wpList Tryd.prog ops Q (o :: rest) a W := by
  subst hn
  obtain ⟨i, hi, hz, hsz, hby⟩ := info_parts info_edge
  cases A with
  | none =>
    have h0 : l = [] := by
      cases l with
      | nil => rfl
      | cons y r => obtain ⟨ad, e, _⟩ := hr.row 0 (by simp); cases e
    subst h0
    obtain rfl := hA rfl
    refine wpList_append_own_none hgd s x 26 ho B 55 i 5 Tryd.underlying26 hi v k (xs.flatMap cellsED) hs hown hx (h v W ?_ (Below.refl _ _) (World.grownBy.refl _ _))
    rw [List.append_nil]
    exact hown
  | some ad =>
    have hl := flat_len cellsED 5 cellsED_len l
    refine wpList_append_own W hgd s x 26 ho B 55 i _ 5 64 Tryd.underlying26 hi hz hsz hby rfl (by decide) v k (xs.flatMap cellsED) hs hown ad l.length c (l.flatMap cellsED) hx hl (newsE hr) (oneE l) (by unfold maxLen; omega) (by omega) hB (fun v' w' h2 h3 _ => ?_)
    rw [← List.flatMap_append] at h2
    exact h v' w' h2 (grow_below hB h3 (fun k e => (hown.lt k e).1)) h3
theorem slice_own_N {W0 : World} {B i c a : Nat} {A : Option Addr} {xs : List Value} (h : W0.ownsRow B 52 3 (.slice A i c) i xs) (ha : a ≤ i) : i ≤ c ∧ c ≤ 9223372036854775807 ∧ (A = none → c = 0) ∧ (∀ W, (Instr.slice 25 (.slice A i c) none (some (.int .i64 (a : Int))) none).run Tryd.prog W = .ok (.slice A a c) W) ∧ ∃ (A2 : Option Addr) (c2 : Nat), (∀ W, (Instr.slice 25 (.slice A i c) (some (.int .i64 (a : Int))) none none).run Tryd.prog W = .ok (.slice A2 (i - a) c2) W) ∧ (A2 = none → c2 = 0) ∧ ∀ (W : World) (l : List ND), l.length = i → ReadsN W A l → ReadsN W A2 (l.drop a) := by
  rcases h.2 with ⟨e, e2⟩ | ⟨g, cap, cur, e, _, _, hn, hm, _⟩
  · cases e
    have ha0 : a = 0 := by omega
    subst ha0
    refine ⟨Nat.le_refl _, by omega, fun _ => rfl, fun W => slice_pre_N none 0 0 0 (Nat.le_refl _) (Nat.le_refl _) (by omega) W, none, 0, fun W => ?_, fun _ => rfl, fun W l hl hr => by rw [List.drop_zero]; exact hr⟩
    go_simp
    (try simp_all)
    (try omega)
  · cases e
    have h9 : c ≤ 9223372036854775807 := by unfold maxLen at hm; omega
    exact ⟨hn, h9, (fun e => by cases e), fun W => slice_pre_N _ i c a ha hn h9 W, slice_suf_N g i c a ha hn h9⟩
theorem put_in_N (l : List ND) (x : ND) (a : Nat) : (l.take a ++ [x] ++ l.drop a).Perm (x :: l) := by
  have h : (l.take a ++ ([x] ++ l.drop a)).Perm ([x] ++ l.drop a ++ l.take a) := List.perm_append_comm
  rw [List.append_assoc]
  refine h.trans ?_
  rw [List.append_assoc]
  refine List.Perm.cons x ?_
  have h2 : (l.drop a ++ l.take a).Perm (l.take a ++ l.drop a) := List.perm_append_comm
  rw [List.take_append_drop] at h2
  exact h2
theorem slice_own_E {W0 : World} {B i c a : Nat} {A : Option Addr} {xs : List Value} (h : W0.ownsRow B 55 5 (.slice A i c) i xs) (ha : a ≤ i) : i ≤ c ∧ c ≤ 9223372036854775807 ∧ (A = none → c = 0) ∧ (∀ W, (Instr.slice 26 (.slice A i c) none (some (.int .i64 (a : Int))) none).run Tryd.prog W = .ok (.slice A a c) W) ∧ ∃ (A2 : Option Addr) (c2 : Nat), (∀ W, (Instr.slice 26 (.slice A i c) (some (.int .i64 (a : Int))) none none).run Tryd.prog W = .ok (.slice A2 (i - a) c2) W) ∧ (A2 = none → c2 = 0) ∧ ∀ (W : World) (l : List ED), l.length = i → ReadsE W A l → ReadsE W A2 (l.drop a) := by
  rcases h.2 with ⟨e, e2⟩ | ⟨g, cap, cur, e, _, _, hn, hm, _⟩
  · cases e
    have ha0 : a = 0 := by omega
    subst ha0
    refine ⟨Nat.le_refl _, by omega, fun _ => rfl, fun W => slice_pre_E none 0 0 0 (Nat.le_refl _) (Nat.le_refl _) (by omega) W, none, 0, fun W => ?_, fun _ => rfl, fun W l hl hr => by rw [List.drop_zero]; exact hr⟩
    go_simp
    (try simp_all)
    (try omega)
  · cases e
    have h9 : c ≤ 9223372036854775807 := by unfold maxLen at hm; omega
    exact ⟨hn, h9, (fun e => by cases e), fun W => slice_pre_E _ i c a ha hn h9 W, slice_suf_E g i c a ha hn h9⟩
theorem put_in_E (l : List ED) (x : ED) (a : Nat) : (l.take a ++ [x] ++ l.drop a).Perm (x :: l) := by
  have h : (l.take a ++ ([x] ++ l.drop a)).Perm ([x] ++ l.drop a ++ l.take a) := List.perm_append_comm
  rw [List.append_assoc]
  refine h.trans ?_
  rw [List.append_assoc]
  refine List.Perm.cons x ?_
  have h2 : (l.drop a ++ l.take a).Perm (l.take a ++ l.drop a) := List.perm_append_comm
  rw [List.take_append_drop] at h2
  exact h2
end Go.Proofs.YtffifhinhemkdaaDoor
