/- An append of values that are read to a row of one's own. -/
import Derived.Test.YtbdbcbpcekpcoaaDoorCvVal
import Derived.Deep.AppendSrc
import Derived.Deep.Upon
set_option linter.unusedVariables false
set_option linter.unusedSimpArgs false
namespace Go.Proofs.YtbdbcbpcekpcoaaDoor
open Go.RowKit Go.Maps

theorem spot_add {a : Addr} (h : (a.add (0 * 5)).spot = none) : a.spot = none := by
  obtain ⟨b, o, sp⟩ := a
  unfold Addr.add at h
  simpa using h
theorem add_off (a : Addr) (h : a.spot = none) (n : Nat) : a.add n = ⟨a.block, a.off + n, none⟩ := by
  obtain ⟨b, o, sp⟩ := a
  simp only at h
  subst h
  unfold Addr.add
  split
  · rename_i e; rw [e]; rfl
  · simp
theorem readsV_cells {W : World} {ad : Addr} {ms : List V5} (hr : ReadsV W (some ad) ms) : ∀ j u, (rowV ms)[j]? = some u → W.cell? (ad.add j) = some u := by
  intro j u hj
  have hl : j < (rowV ms).length := (List.getElem?_eq_some_iff.1 hj).1
  rw [rowV_len] at hl
  obtain ⟨q, i, rfl, hi, hq⟩ : ∃ q i, j = q * 5 + i ∧ i < 5 ∧ q < ms.length := ⟨j / 5, j % 5, by omega, by omega, by omega⟩
  rw [rowV_at ms q i hq hi] at hj
  obtain ⟨ad', e, hh⟩ := hr.row q hq
  cases e
  have hs : ad.spot = none := by
    obtain ⟨ad'', e, h0⟩ := hr.row 0 (by omega)
    cases e
    exact spot_add h0.spot
  rw [add_off ad hs, ← Nat.add_assoc]
  have e5 := add_off ad hs (q * 5)
  have c0 := hh.c0
  have c1 := hh.c1
  have c2 := hh.c2
  have c3 := hh.c3
  have c4 := hh.c4
  rw [e5] at c0 c1 c2 c3 c4
  rw [← hj]
  match i, hi with
  | 0, _ => exact c0
  | 1, _ => exact c1
  | 2, _ => exact c2
  | 3, _ => exact c3
  | 4, _ => exact c4
theorem append_valsG {W : World} {o : Oper} {a : Act} {K : Act → World → Prop} {Q : Exit → Act → World → Prop} (s x : Operand)
    (ho : o.op = .call { callee := .builtin .append, args := #[s, x], argTypes := #[23, 23] }) (B : Nat)
    (rv : Value) (us : List V5) (hs : a.eval s = rv) (hown : OwnV W B rv us) (hB : B ≤ W.heap.size) (A : Option Addr) (ms : List V5) (c : Nat) (hx : a.eval x = .slice A ms.length c) (hr : ReadsV W A ms)
    (hap : ∀ u ∈ ms, ∀ a, u.A = some a → 0 < u.p.length → rv.ownBlock ≠ some a.block) (hn : us.length + ms.length ≤ 1000000000000)
    (h : ∀ v' w', OwnV w' B v' (us ++ ms) → Below B W w' → W.grownBy w' rv.ownBlock → (v'.ownBlock = rv.ownBlock ∨ v'.ownBlock = some W.heap.size) → K (a.put o.dst v') w') : o.wp Tryd.prog a W K Q := by
  obtain ⟨i0, hi, hz0, hz1, hz2⟩ := info_parts info_val
  have hrow : rowV (us ++ ms) = rowV us ++ rowV ms := by simp [rowV]
  cases A with
  | some ad =>
    obtain ⟨v', w', hrun, h2, h3, _, h5⟩ := run_append_own_at (P := Tryd.prog) W B 23 o.type 39 i0 (.agg #[.int .i64 0, .bool false, .int .i64 0, .string ⟨#[]⟩, .slice none 0 0]) 5 64 Tryd.underlying23 hi hz0 hz1 hz2 rfl (by decide) rv us.length (rowV us) hown.row ad ms.length c (rowV ms) (rowV_len ms) (readsV_cells hr) (by
      intro u hu
      obtain ⟨v, _, hv⟩ := List.mem_flatMap.1 hu
      simp [V5.cells] at hv
      rcases hv with rfl | rfl | rfl | rfl | rfl <;> rfl) (by unfold maxLen; omega) (by omega) hB
    unfold Oper.wp execOp
    simp only [ho, resolve, invoke, builtin, Sem.run_bind, Sem.run_pure, Result.andThen_ok, List.map_toArray, List.map_cons, List.map_nil, hs, hx, hrun]
    have hold : ∀ k, k < W.heap.size → rv.ownBlock ≠ some k → w'.heap[k]? = W.heap[k]? := fun k hk hne => h3.block k hk (fun e => hne e.symm)
    have hrk : ∀ v ∈ us ++ ms, ReadsI W v.A v.p ∧ (∀ a, v.A = some a → 0 < v.p.length → rv.ownBlock ≠ some a.block) ∧ -9223372036854775808 ≤ v.n ∧ v.n ≤ 9223372036854775807 := fun v hv => by
      rcases List.mem_append.1 hv with hv | hv
      · exact ⟨hown.path v hv, hown.apart v hv, hown.num v hv⟩
      · exact ⟨hr.path v hv, hap v hv, hr.num v hv⟩
    refine h v' w' ⟨by rw [hrow, List.length_append]; exact h2, fun v hv => ?_, fun v hv a e hp => ?_, fun v hv => (hrk v hv).2.2⟩ ?_ h3 h5
    · obtain ⟨r1, r2, _⟩ := hrk v hv
      refine ⟨r1.1, fun hp => ?_⟩
      obtain ⟨ad, e, hc⟩ := r1.2 hp
      refine ⟨ad, e, fun j hj => ?_⟩
      have hlt : ad.block < W.heap.size := readsI_lt (e ▸ r1) hp
      have hb : (ad.add j).block = ad.block := by
        unfold Addr.add
        split <;> rfl
      rw [← hc j hj]
      have := hold (ad.add j).block (by rw [hb]; exact hlt) (by rw [hb]; exact r2 ad e hp)
      unfold World.cell?
      rw [this]
    · obtain ⟨r1, r2, _⟩ := hrk v hv
      have hlt : a.block < W.heap.size := readsI_lt (e ▸ r1) hp
      rcases h5 with g | g
      · rw [g]; exact r2 a e hp
      · rw [g]
        intro g2
        simp only [Option.some.injEq] at g2
        omega
    · exact ⟨h3.os, h3.tape, h3.output, h3.size, fun k hk => hold k (by omega) (fun e => by have := (hown.row.lt k e).1; omega)⟩
  | none =>
    obtain rfl : ms = [] := by
      rcases List.eq_nil_or_concat ms with e | ⟨t, y, rfl⟩
      · exact e
      · obtain ⟨ad, e, _⟩ := hr.row 0 (by simp)
        cases e
    obtain ⟨base, cap, hv, hle⟩ : ∃ base cap, rv = .slice base us.length cap ∧ us.length ≤ cap := by
      rcases hown.row.2 with ⟨e1, e2⟩ | ⟨g, cap, cur, e1, hg, hh, hn, hm, hs, htk⟩
      · exact ⟨none, 0, by rw [e1, e2], by omega⟩
      · exact ⟨_, cap, e1, hn⟩
    have hrun := run_append_nothing (P := Tryd.prog) W 23 23 o.type 39 i0 Tryd.underlying23 hi base us.length cap hle (.slice none 0 c) (Src.ofNil W Tryd.underlying23 c)
    have hx' : a.eval x = .slice none 0 c := hx
    unfold Oper.wp
    rw [hv] at hs
    simp [execOp, ho, resolve, invoke, builtin, hs, hx', hrun, Result.andThen]
    rw [← hv]
    exact h rv W (by simpa using hown) (Below.refl _ _) (World.grownBy.refl _ _) (.inl rfl)
theorem append_valsO {W : World} {o : Oper} {a : Act} {K : Act → World → Prop} {Q : Exit → Act → World → Prop} (s x : Operand)
    (ho : o.op = .call { callee := .builtin .append, args := #[s, x], argTypes := #[23, 23] }) (B : Nat)
    (rv : Value) (us : List V5) (hs : a.eval s = rv) (hown : OwnV W B rv us) (hB : B ≤ W.heap.size) (A : Option Addr) (ms : List V5) (c : Nat) (hx : a.eval x = .slice A ms.length c) (hr : ReadsV W A ms)
    (hap : ∀ u ∈ ms, ∀ a, u.A = some a → 0 < u.p.length → rv.ownBlock ≠ some a.block) (hn : us.length + ms.length ≤ 1000000000000)
    (h : ∀ v' w', OwnV w' B v' (us ++ ms) → Below B W w' → K (a.put o.dst v') w') : o.wp Tryd.prog a W K Q :=
  append_valsG s x ho B rv us hs hown hB A ms c hx hr hap hn (fun v' w' h1 h2 _ _ => h v' w' h1 h2)
end Go.Proofs.YtbdbcbpcekpcoaaDoor
