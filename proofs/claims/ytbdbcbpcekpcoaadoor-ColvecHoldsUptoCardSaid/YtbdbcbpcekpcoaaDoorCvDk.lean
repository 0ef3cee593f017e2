/- A column's dictionary, as it is told; rows of texts, as they are read. -/
import Derived.Test.YtbdbcbpcekpcoaaDoorCvOfE
import Derived.Test.YtbdbcbpcekpcoaaDoorShelf
set_option linter.unusedVariables false
set_option linter.unusedSimpArgs false
namespace Go.Proofs.YtbdbcbpcekpcoaaDoor
open Go.RowKit Go.Maps

/-- A slice of texts, as it is read. -/
def ReadsT (w : World) (A : Option Addr) (l : List ByteArray) : Prop :=
  l.length ≤ 9223372036854775807 ∧ (0 < l.length → ∃ ad, A = some ad ∧ ∀ j, j < l.length → w.cell? (ad.add j) = some (.string (l.getD j ByteArray.empty)))
theorem ReadsT.at_ {w : World} {A : Option Addr} {l : List ByteArray} (h : ReadsT w A l) (i : Nat) (hi : i < l.length) : ∃ ad, A = some ad ∧ w.cell? (ad.add i) = some (.string (l.getD i ByteArray.empty)) := by
  obtain ⟨ad, e, hc⟩ := h.2 (by omega)
  exact ⟨ad, e, hc _ hi⟩
theorem ReadsT.below {w w1 : World} {A : Option Addr} {l : List ByteArray} (h : ReadsT w A l) (hb : Below w.heap.size w w1) : ReadsT w1 A l :=
  ⟨h.1, fun hn => by
    obtain ⟨ad, e, hc⟩ := h.2 hn
    exact ⟨ad, e, fun j hj => (hb.cell (World.block_lt_of_cell? w _ (hc j hj))).trans (hc j hj)⟩⟩
theorem textCells_len (p : List ByteArray) : (textCells p).length = p.length := by simp [textCells]
theorem own_texts {W : World} {B : Nat} {v : Value} {l : List ByteArray} (h : W.ownsRow B 9 1 v l.length (textCells l)) :
    ∃ (A : Option Addr) (cap : Nat), v = .slice A l.length cap ∧ ReadsT W A l := by
  have h' := h
  rcases h with ⟨hl, ⟨rfl, h0⟩ | ⟨g, cap, cur, rfl, hg, hh, hn, hm, hs, htk⟩⟩
  · rw [h0]
    exact ⟨none, 0, rfl, ⟨by omega, fun hp => absurd hp (by omega)⟩⟩
  · refine ⟨_, cap, rfl, ⟨by unfold maxLen at hm; omega, fun _ => ⟨_, rfl, fun j hj => ?_⟩⟩⟩
    have hcs := h'.cells (g := g) rfl j (.string (l.getD j ByteArray.empty)) (by simp [textCells, List.getD, hj])
    exact hcs
/-- An append of one text to an own row. -/
theorem append_str {wr : World} {ops : Array Oper} {rest : List Oper} {o : Oper} {a : Act} {Q : Exit → Act → World → Prop} (hgd : o.guard = none) (s x : Operand)
    (ho : o.op = .call { callee := .builtin .append, args := #[s, x], argTypes := #[52, 52] }) (B : Nat)
    (v : Value) (n : Nat) (xs : List Value) (hs : a.eval s = v) (hown : wr.ownsRow B 9 1 v n xs) (b : ByteArray) (hx : a.eval x = .slice (some ⟨wr.heap.size, 0, none⟩) 1 1)
    (hn : n ≤ 8796093022207) (hB : B = 0)
    (h : ∀ v' w', w'.ownsRow B 9 1 v' (n + 1) (xs ++ [.string b]) → (wr.alloc (.cells #[.string b] 9)).grownBy w' v.ownBlock → (v'.ownBlock = v.ownBlock ∨ v'.ownBlock = some (wr.alloc (.cells #[.string b] 9)).heap.size) → wpList Tryd.prog ops Q rest (a.put o.dst v') w') :
    wpList Tryd.prog ops Q (o :: rest) a (wr.alloc (.cells #[.string b] 9)) := by
  subst hB
  obtain ⟨i0, hi, hz0, hz1, hz2⟩ := info_parts info_str
  refine wpList_append_own_at (w := wr.alloc (.cells #[.string b] 9)) hgd s x 52 ho 0 9 i0 (.string ⟨#[]⟩) 1 16 Tryd.underlying52 hi hz0 hz1 hz2 rfl (by decide) v n xs hs (hown.alloc _) ⟨wr.heap.size, 0, none⟩ 1 1 [.string b] hx rfl (cell_one_new _ _ _) (by intro u hu; simp at hu; subst hu; rfl) (by unfold maxLen; omega) (by omega) (by simp) ?_
  intro v' w' h1 h2 _ h4
  exact h v' w' h1 h2 h4
set_option maxRecDepth 100000 in
set_option maxHeartbeats 3200000 in
theorem dict_any (F : Nat → Prop) (b : Nat) (s : VS) (w : World) (hv : VecIs w F b s) (hd : s.dl.length ≤ 8796093022207) :
    Calls Tryd.prog 23 #[.pointer (some ⟨b, 0, none⟩)] w fun e w' => ∃ A c, e = .returned (.slice A s.dl.length c) ∧ ReadsT w' A s.dl ∧ Below w.heap.size w w' := by
  obtain ⟨nv, bv, iv, dv, hvv, m, hV⟩ := hv
  have hc := hV.box.cells
  have hf := hV.box.free
  have hdv := hV.dict
  obtain ⟨A, c, rfl, hrd⟩ := own_texts hdv
  have hA0 : A = none → s.dl.length = 0 := fun e => by
    rcases Nat.eq_zero_or_pos s.dl.length with h | h
    · exact h
    · obtain ⟨ad, e', _⟩ := hrd.2 h
      rw [e] at e'
      cases e'
  cases A with
  | none =>
    have h0 := hA0 rfl
    have hdl : s.dl = [] := List.length_eq_zero_iff.1 h0
    rw [h0]
    rw [h0] at hc
    have hC := fun W => Tryd.slices_Clone_string_nil 0 c W
    rw [hdl]
    clear hdv hrd hA0 h0 hdl hV
    go_enter Tryd.func23, Tryd.ntmps23
    go_wp2_with (go_at_call 35; go_loud (refine (hC _).mono ?_))
    rintro e Wl ⟨rfl, rfl⟩
    go_wp2
    go_ret
    exact ⟨none, 0, rfl, ⟨by simp, fun h => absurd h (by simp)⟩, Below.refl _ _⟩
  | some ad =>
    obtain ⟨g, o, sp⟩ := ad
    have hsp : sp = none ∧ o = 0 := by
      rcases hdv.2 with ⟨e, _⟩ | ⟨g', cap, cur, e, _⟩
      · cases e
      · cases e
        exact ⟨rfl, rfl⟩
    obtain ⟨rfl, rfl⟩ := hsp
    have hC := Tryd.slices_Clone_string g 0 s.dl.length c s.dl w (Nat.le_refl _) (by omega) (fun j hj => by
      obtain ⟨ad, e, h⟩ := hrd.at_ j hj
      cases e
      have e2 : (⟨g, 0, none⟩ : Addr).add j = ⟨g, 0 + j, none⟩ := by unfold Addr.add; split <;> simp_all
      rw [e2] at h
      exact h)
    rw [List.take_length] at hC
    have HRD : Aside0 (∀ W v, W.ownsRow w.heap.size 9 1 v s.dl.length (textCells s.dl) → ∃ (A : Option Addr) (cap : Nat), v = .slice A s.dl.length cap ∧ ReadsT W A s.dl) := ⟨fun W v h => own_texts h⟩
    have hC2 : Calls Tryd.prog 35 #[.slice (some ⟨g, 0, none⟩) s.dl.length c] w fun e w' => ∃ v', e = .returned v' ∧ w'.ownsRow w.heap.size 9 1 v' s.dl.length (textCells s.dl) ∧ v' ≠ .slice none 0 0 ∧ Below w.heap.size w w' := hC
    generalize s.dl = l at hc hC2 HRD ⊢
    clear hdv hrd hA0 hV hd hC
    obtain ⟨n, hn⟩ : ∃ n, n = l.length := ⟨_, rfl⟩
    rw [← hn] at hc hC2 HRD ⊢
    have HN := Aside0.mk hn
    clear hn
    go_enter Tryd.func23, Tryd.ntmps23
    go_wp2_with (go_at_call 35; go_loud (refine hC2.mono ?_))
    rintro e Wl ⟨v', rfl, ho, _, hb⟩
    obtain ⟨A2, c2, rfl, hr2⟩ := HRD.out _ _ ho
    go_wp2
    go_ret
    exact ⟨A2, c2, rfl, hr2, hb⟩
end Go.Proofs.YtbdbcbpcekpcoaaDoor
