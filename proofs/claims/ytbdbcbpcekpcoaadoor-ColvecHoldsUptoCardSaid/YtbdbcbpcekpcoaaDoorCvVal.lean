/- Own rows of values; what a column's values are told as. -/
import Derived.Test.YtbdbcbpcekpcoaaDoorCvAtA
import Derived.Test.YtbdbcbpcekpcoaaDoorCvNum
set_option linter.unusedVariables false
set_option linter.unusedSimpArgs false
namespace Go.Proofs.YtbdbcbpcekpcoaaDoor
open Go.RowKit Go.Maps

theorem info_val : (Tryd.prog.info? 39).map (fun i => (i.zero, i.size, i.bytes)) = some (some (.agg #[.int .i64 0, .bool false, .int .i64 0, .string ⟨#[]⟩, .slice none 0 0]), 5, 64) := by kernel_rfl
def rowV (us : List V5) : List Value := us.flatMap V5.cells
theorem rowV_snoc (us : List V5) (u : V5) : rowV (us ++ [u]) = rowV us ++ u.cells := by simp [rowV]
theorem rowV_len (us : List V5) : (rowV us).length = us.length * 5 := by
  induction us with
  | nil => rfl
  | cons u r ih =>
    have : rowV (u :: r) = u.cells ++ rowV r := rfl
    rw [this, List.length_append, ih, List.length_cons]
    have : u.cells.length = 5 := rfl
    omega
theorem rowV_at : ∀ (us : List V5) (j i : Nat), j < us.length → i < 5 → (rowV us)[j * 5 + i]? = ((us.getD j V5.zero).cells)[i]?
  | [], j, i, h, _ => absurd h (by simp)
  | u :: r, 0, i, _, hi => by
    have : rowV (u :: r) = u.cells ++ rowV r := rfl
    rw [this, Nat.zero_mul, Nat.zero_add, List.getElem?_append_left (by show i < 5; exact hi)]
    rfl
  | u :: r, j + 1, i, h, hi => by
    have : rowV (u :: r) = u.cells ++ rowV r := rfl
    rw [this, List.getElem?_append_right (by show 5 ≤ _; omega)]
    have e : (j + 1) * 5 + i - u.cells.length = j * 5 + i := by show (j + 1) * 5 + i - 5 = _; omega
    rw [e, rowV_at r j i (by simpa using h) hi]
    simp [List.getD]
/-- A row of values of one's own, whose paths lie elsewhere. -/
structure OwnV (W : World) (B : Nat) (rv : Value) (us : List V5) : Prop where
  row : W.ownsRow B 39 5 rv us.length (rowV us)
  path : ∀ u ∈ us, ReadsI W u.A u.p
  apart : ∀ u ∈ us, ∀ a, u.A = some a → 0 < u.p.length → rv.ownBlock ≠ some a.block
  num : ∀ u ∈ us, -9223372036854775808 ≤ u.n ∧ u.n ≤ 9223372036854775807
theorem ownV_nil (W : World) (B : Nat) : OwnV W B (.slice none 0 0) [] := ⟨World.ownsRow_nil W B _ 5, fun u hu => (by cases hu), fun u hu => (by cases hu), fun u hu => (by cases hu)⟩
theorem OwnV.below {W W' : World} {B : Nat} {rv : Value} {us : List V5} (h : OwnV W B rv us) (hb : Below W.heap.size W W') : OwnV W' B rv us :=
  ⟨own_at h.row (fun k hk _ => hb.block k hk), fun u hu => (h.path u hu).below hb, h.apart, h.num⟩
theorem OwnV.reads {W : World} {B : Nat} {rv : Value} {us : List V5} (h : OwnV W B rv us) : ∃ A c, rv = .slice A us.length c ∧ ReadsV W A us := by
  obtain ⟨A, c, rfl, hl⟩ := row_shape h.row
  refine ⟨A, c, rfl, ⟨hl, fun j hj => ?_, h.path, h.num⟩⟩
  rcases h.row with ⟨hl, ⟨e, h0⟩ | ⟨g, cap, cur, e, hg, hh, hn, hm, hs, htk⟩⟩
  · omega
  · cases e
    have hcell : ∀ i, i < 5 → W.cell? ⟨g, j * 5 + i, none⟩ = ((us.getD j V5.zero).cells)[i]? := fun i hi => by
      rw [← rowV_at us j i hj hi]
      exact World.ownsRow.cellAt h.row (j * 5 + i) (by omega)
    have ha : (⟨g, 0, none⟩ : Addr).add (j * 5) = ⟨g, j * 5, none⟩ := add_0 g _
    refine ⟨_, rfl, ?_⟩
    rw [ha]
    exact ⟨(Array.getElem?_eq_some_iff.1 hh).1, rfl, hcell 0 (by omega), hcell 1 (by omega), hcell 2 (by omega), hcell 3 (by omega), hcell 4 (by omega)⟩
theorem readsI_lt {W : World} {a : Addr} {p : List Int} (h : ReadsI W (some a) p) (hp : 0 < p.length) : a.block < W.heap.size := by
  obtain ⟨ad, e, hc⟩ := h.at_ 0 hp
  cases e
  have h1 := World.block_lt_of_cell? W _ hc
  have h2 : (a.add 0).block = a.block := by
    unfold Addr.add
    split <;> rfl
  rwa [h2] at h1
/-- One value more. -/
theorem append_val {wr : World} {ops : Array Oper} {rest : List Oper} {o : Oper} {a : Act} {Q : Exit → Act → World → Prop} (hgd : o.guard = none) (s x : Operand)
    (ho : o.op = .call { callee := .builtin .append, args := #[s, x], argTypes := #[23, 23] }) (B : Nat)
    (rv : Value) (us : List V5) (hs : a.eval s = rv) (hown : OwnV wr B rv us) (hB : B ≤ wr.heap.size) (u : V5) (hx : a.eval x = .slice (some ⟨wr.heap.size, 0, none⟩) 1 1)
    (hn : us.length ≤ 1000000000000) (hrd : ReadsI wr u.A u.p) (hap : ∀ a, u.A = some a → 0 < u.p.length → rv.ownBlock ≠ some a.block) (hnum : -9223372036854775808 ≤ u.n ∧ u.n ≤ 9223372036854775807)
    (h : ∀ v' w', OwnV w' B v' (us ++ [u]) → Below B wr w' → wpList Tryd.prog ops Q rest (a.put o.dst v') w') :
    wpList Tryd.prog ops Q (o :: rest) a (wr.alloc (.cells u.cells.toArray 39)) := by
  obtain ⟨i0, hi, hz0, hz1, hz2⟩ := info_parts info_val
  have hc0 : ∀ j, (wr.alloc (.cells u.cells.toArray 39)).cell? ⟨wr.heap.size, j, none⟩ = u.cells[j]? := fun j => by
    unfold World.cell?
    rw [heap_alloc_new wr _]
    simp
  refine wpList_append_own_at (w := wr.alloc (.cells u.cells.toArray 39)) hgd s x 23 ho B 39 i0 (.agg #[.int .i64 0, .bool false, .int .i64 0, .string ⟨#[]⟩, .slice none 0 0]) 5 64 Tryd.underlying23 hi hz0 hz1 hz2 rfl (by decide) rv us.length (rowV us) hs (hown.row.alloc _) ⟨wr.heap.size, 0, none⟩ 1 1 u.cells hx rfl (fun j z hj => by rw [add_0, hc0]; exact hj) (by intro z hz; simp [V5.cells] at hz; rcases hz with rfl | rfl | rfl | rfl | rfl <;> rfl) (by unfold maxLen; omega) (by omega) (by simp; omega) ?_
  intro v' w' h1 h2 _ h4
  have hsz : (wr.alloc (.cells u.cells.toArray 39)).heap.size = wr.heap.size + 1 := by simp
  have hold : ∀ k, k < wr.heap.size → rv.ownBlock ≠ some k → w'.heap[k]? = wr.heap[k]? := fun k hk hne => (h2.block k (by rw [hsz]; omega) (fun e => hne e.symm)).trans (heap_alloc_old wr _ hk)
  have hrk : ∀ v ∈ us ++ [u], ReadsI wr v.A v.p ∧ (∀ a, v.A = some a → 0 < v.p.length → rv.ownBlock ≠ some a.block) ∧ -9223372036854775808 ≤ v.n ∧ v.n ≤ 9223372036854775807 := fun v hv => by
    rcases List.mem_append.1 hv with hv | hv
    · exact ⟨hown.path v hv, hown.apart v hv, hown.num v hv⟩
    · simp at hv
      subst hv
      exact ⟨hrd, hap, hnum⟩
  refine h v' w' ⟨by rw [rowV_snoc, List.length_append]; exact h1, fun v hv => ?_, fun v hv a e hp => ?_, fun v hv => (hrk v hv).2.2⟩ ?_
  · obtain ⟨r1, r2, _⟩ := hrk v hv
    refine ⟨r1.1, fun hp => ?_⟩
    obtain ⟨ad, e, hc⟩ := r1.2 hp
    refine ⟨ad, e, fun j hj => ?_⟩
    have hlt : ad.block < wr.heap.size := readsI_lt (e ▸ r1) hp
    have hb : (ad.add j).block = ad.block := by
      unfold Addr.add
      split <;> rfl
    rw [← hc j hj]
    have := hold (ad.add j).block (by rw [hb]; exact hlt) (by rw [hb]; exact r2 ad e hp)
    unfold World.cell?
    rw [this]
  · obtain ⟨r1, r2, _⟩ := hrk v hv
    have hlt : a.block < wr.heap.size := readsI_lt (e ▸ r1) hp
    rcases h4 with g | g
    · rw [g]; exact r2 a e hp
    · rw [g, hsz]
      intro g2
      simp only [Option.some.injEq] at g2
      omega
  · exact ⟨h2.os, h2.tape, h2.output, by have := h2.size; rw [hsz] at this; omega, fun k hk => hold k (by omega) (fun e => by have := (hown.row.lt k e).1; omega)⟩
end Go.Proofs.YtbdbcbpcekpcoaaDoor
