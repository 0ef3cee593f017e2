/- Plain laws of checkR: an ID that is there already, an end that is not there. No program stands here. -/
import Derived.Test.YtffifhinhemkdaaDoorRgPl
set_option linter.unusedVariables false
set_option linter.unusedSimpArgs false
namespace Go.Proofs.YtffifhinhemkdaaDoor

theorem recErr_id {ts : List TD} {ids : List Int} {id : Int} {lb : List UInt8} {qs : List QD} {ends : Bool} (h : recErr ts ids id lb qs ends = 0) : 0 ≤ id ∧ id ≤ 1099511627776 := by
  unfold recErr at h
  split at h
  · cases h
  · omega
theorem recErr_twice {ts : List TD} {ids : List Int} {id : Int} {lb : List UInt8} {qs : List QD} {ends : Bool} (h0 : 0 ≤ id ∧ id ≤ 1099511627776) (h : id ∈ ids) : recErr ts ids id lb qs ends = 42 := by
  unfold recErr
  rw [if_neg (by omega), if_pos h]
theorem recErr_end {ts : List TD} {ids : List Int} {id : Int} {lb : List UInt8} {qs : List QD} {ends : Bool} (h : recErr ts ids id lb qs ends = 0) : recErr ts ids id lb qs false = 46 := by
  unfold recErr at h ⊢
  split at h
  · cases h
  · rename_i h1
    rw [if_neg h1]
    split at h
    · cases h
    · rename_i h2
      rw [if_neg h2]
      split at h
      · cases h
      · rename_i h3
        rw [if_neg h3, if_pos rfl]
theorem nodeR_ids (ts : List TD) : ∀ (ns : List ND) (ids : List Int) (i : Nat), nodeR ts ids i ns = none → ∀ x ∈ ns, 0 ≤ x.id ∧ x.id ≤ 1099511627776
  | [], ids, i, h, x, hx => by cases hx
  | y :: r, ids, i, h, x, hx => by
    rw [nodeR] at h
    split at h
    · rename_i h0
      rcases List.mem_cons.1 hx with rfl | hx
      · exact recErr_id h0
      · exact nodeR_ids ts r _ _ h x hx
    · cases h
theorem edgeR_end (ts : List TD) (nids : List Int) (hn : ¬ (-1 : Int) ∈ nids) : ∀ (es : List ED) (ids : List Int) (i k : Nat), edgeR ts nids ids i es = none → k < es.length → edgeR ts nids ids i (es.set k { es.getD k ED.zero with t := -1 }) = some (i + k, 46)
  | [], ids, i, k, h, hk => by simp at hk
  | y :: r, ids, i, 0, h, hk => by
    rw [edgeR] at h
    split at h
    · rename_i h0
      have he : endsB nids { (y :: r).getD 0 ED.zero with t := -1 } = false := by
        unfold endsB
        rw [decide_eq_false hn, Bool.and_false]
      have h1 : recErr ts ids y.id y.key y.qs false = 46 := recErr_end h0
      rw [List.set_cons_zero, edgeR, he]
      have h2 : recErr ts ids ({ (y :: r).getD 0 ED.zero with t := -1 } : ED).id ({ (y :: r).getD 0 ED.zero with t := -1 } : ED).key ({ (y :: r).getD 0 ED.zero with t := -1 } : ED).qs false = 46 := h1
      rw [h2, if_neg (by decide)]
      rfl
    · cases h
  | y :: r, ids, i, k + 1, h, hk => by
    rw [edgeR] at h
    split at h
    · rename_i h0
      have h2 := edgeR_end ts nids hn r _ _ k h (by simpa using hk)
      rw [List.set_cons_succ, edgeR, if_pos h0]
      have h3 : (y :: r).getD (k + 1) ED.zero = r.getD k ED.zero := rfl
      rw [h3, h2, Nat.add_assoc, Nat.add_comm 1 k]
    · cases h
/-- A node behind the nodes, with an ID that is there. -/
theorem check_twice (nts ets : List TD) (ns : List ND) (es : List ED) (j : Nat) (h : (checkR nts ets ns es).2.2 = 0) (hj : j < ns.length) :
    checkR nts ets (ns ++ [ns.getD j ND.zero]) es = (3, ns.length, 42) := by
  unfold checkR at h ⊢
  cases h1 : declR [] 0 nts with
  | some p => rw [h1] at h; exact absurd h (declR_err nts _ _ p.1 p.2 h1)
  | none =>
    rw [h1] at h
    cases h2 : declR [] 0 ets with
    | some p => rw [h2] at h; exact absurd h (declR_err ets _ _ p.1 p.2 h2)
    | none =>
      rw [h2] at h
      cases h3 : nodeR nts [] 0 ns with
      | some p => rw [h3] at h; exact absurd h (nodeR_err nts ns _ _ p.1 p.2 h3)
      | none =>
        have hm : ns.getD j ND.zero ∈ ns := by
          have e : ns.getD j ND.zero = ns[j] := by simp [List.getD, hj]
          rw [e]
          exact List.getElem_mem hj
        have h4 : recErr nts ([] ++ ns.map ND.id) (ns.getD j ND.zero).id (ns.getD j ND.zero).key (ns.getD j ND.zero).qs true = 42 :=
          recErr_twice (nodeR_ids nts ns _ _ h3 _ hm) (by rw [List.nil_append]; exact List.mem_map_of_mem hm)
        simp only
        rw [nodeR_snoc, h3]
        simp only
        rw [h4, if_neg (by decide), Nat.zero_add]
/-- An edge whose end is no node. -/
theorem check_end (nts ets : List TD) (ns : List ND) (es : List ED) (k : Nat) (h : (checkR nts ets ns es).2.2 = 0) (hk : k < es.length) :
    checkR nts ets ns (es.set k { es.getD k ED.zero with t := -1 }) = (4, k, 46) := by
  unfold checkR at h ⊢
  cases h1 : declR [] 0 nts with
  | some p => rw [h1] at h; exact absurd h (declR_err nts _ _ p.1 p.2 h1)
  | none =>
    rw [h1] at h
    cases h2 : declR [] 0 ets with
    | some p => rw [h2] at h; exact absurd h (declR_err ets _ _ p.1 p.2 h2)
    | none =>
      rw [h2] at h
      cases h3 : nodeR nts [] 0 ns with
      | some p => rw [h3] at h; exact absurd h (nodeR_err nts ns _ _ p.1 p.2 h3)
      | none =>
        rw [h3] at h
        cases h4 : edgeR ets (ns.map ND.id) [] 0 es with
        | some p => simp only [h4] at h; exact absurd h (edgeR_err ets _ es _ _ p.1 p.2 h4)
        | none =>
          simp only
          rw [edgeR_end ets (ns.map ND.id) (fun hin => by
            obtain ⟨x, hx, e⟩ := List.mem_map.1 hin
            have := (nodeR_ids nts ns _ _ h3 x hx).1
            omega) es [] 0 k h4 hk]
          simp
end Go.Proofs.YtffifhinhemkdaaDoor
