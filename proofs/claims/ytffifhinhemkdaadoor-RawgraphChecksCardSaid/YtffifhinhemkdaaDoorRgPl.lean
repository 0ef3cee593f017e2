/- Plain laws of checkR: what is put behind the records. No program stands here. -/
import Derived.Test.YtffifhinhemkdaaDoorRgC
set_option linter.unusedVariables false
set_option linter.unusedSimpArgs false
namespace Go.Proofs.YtffifhinhemkdaaDoor

theorem nodeR_err (ts : List TD) : ∀ (ns : List ND) (ids : List Int) (i j : Nat) (e : Int), nodeR ts ids i ns = some (j, e) → ¬ e = 0
  | [], ids, i, j, e, h => by cases h
  | x :: r, ids, i, j, e, h => by
    unfold nodeR at h
    split at h
    · exact nodeR_err ts r _ _ j e h
    · rename_i hne
      cases h
      exact hne
theorem edgeR_err (ts : List TD) (nids : List Int) : ∀ (ns : List ED) (ids : List Int) (i j : Nat) (e : Int), edgeR ts nids ids i ns = some (j, e) → ¬ e = 0
  | [], ids, i, j, e, h => by cases h
  | x :: r, ids, i, j, e, h => by
    unfold edgeR at h
    split at h
    · exact edgeR_err ts nids r _ _ j e h
    · rename_i hne
      cases h
      exact hne
theorem nodeR_snoc (ts : List TD) (n : ND) : ∀ (ns : List ND) (ids : List Int) (i : Nat), nodeR ts ids i (ns ++ [n]) = match nodeR ts ids i ns with
    | some p => some p
    | none => if recErr ts (ids ++ ns.map ND.id) n.id n.key n.qs true = 0 then none else some (i + ns.length, recErr ts (ids ++ ns.map ND.id) n.id n.key n.qs true)
  | [], ids, i => by
    simp only [List.nil_append, nodeR, List.map_nil, List.append_nil, List.length_nil, Nat.add_zero]
  | x :: r, ids, i => by
    rw [List.cons_append, nodeR, nodeR]
    split
    · rw [nodeR_snoc ts n r (ids ++ [x.id]) (i + 1), List.append_assoc, List.length_cons, Nat.add_assoc, Nat.add_comm 1 r.length]
      rfl
    · rfl
theorem edgeR_snoc (ts : List TD) (nids : List Int) (n : ED) : ∀ (ns : List ED) (ids : List Int) (i : Nat), edgeR ts nids ids i (ns ++ [n]) = match edgeR ts nids ids i ns with
    | some p => some p
    | none => if recErr ts (ids ++ ns.map ED.id) n.id n.key n.qs (endsB nids n) = 0 then none else some (i + ns.length, recErr ts (ids ++ ns.map ED.id) n.id n.key n.qs (endsB nids n))
  | [], ids, i => by
    simp only [List.nil_append, edgeR, List.map_nil, List.append_nil, List.length_nil, Nat.add_zero]
  | x :: r, ids, i => by
    rw [List.cons_append, edgeR, edgeR]
    split
    · rw [edgeR_snoc ts nids n r (ids ++ [x.id]) (i + 1), List.append_assoc, List.length_cons, Nat.add_assoc, Nat.add_comm 1 r.length]
      rfl
    · rfl
theorem recErr_ends {ts : List TD} {ids : List Int} {id : Int} {lb : List UInt8} {qs : List QD} {ends : Bool} (h : recErr ts ids id lb qs ends = 0) : ends = true := by
  cases ends with
  | true => rfl
  | false =>
    unfold recErr at h
    split at h
    · cases h
    · split at h
      · cases h
      · split at h
        · cases h
        · rw [if_pos rfl] at h
          cases h
theorem endsB_more {nids : List Int} {x : ED} (k : Int) (h : endsB nids x = true) : endsB (nids ++ [k]) x = true := by
  unfold endsB at h ⊢
  rw [Bool.and_eq_true, decide_eq_true_iff, decide_eq_true_iff] at h ⊢
  exact ⟨List.mem_append.2 (.inl h.1), List.mem_append.2 (.inl h.2)⟩
theorem edgeR_more (ts : List TD) (nids : List Int) (k : Int) : ∀ (es : List ED) (ids : List Int) (i : Nat), edgeR ts nids ids i es = none → edgeR ts (nids ++ [k]) ids i es = none
  | [], ids, i, h => rfl
  | x :: r, ids, i, h => by
    rw [edgeR] at h ⊢
    split at h
    · rename_i h0
      have h1 := recErr_ends h0
      have h2 := endsB_more k h1
      rw [h1] at h0
      rw [h2, if_pos h0]
      exact edgeR_more ts nids k r _ _ h
    · cases h
/-- What is put behind the edges. -/
theorem check_edge (nts ets : List TD) (ns : List ND) (es : List ED) (e : ED) :
    (¬ (checkR nts ets ns es).2.2 = 0 → checkR nts ets ns (es ++ [e]) = checkR nts ets ns es) ∧
    ((checkR nts ets ns es).2.2 = 0 → (checkR nts ets ns (es ++ [e])).2.2 = 0 ∨ ∃ er, checkR nts ets ns (es ++ [e]) = (4, es.length, er)) := by
  unfold checkR
  cases h1 : declR [] 0 nts with
  | some p => exact ⟨fun _ => rfl, fun h => absurd h (declR_err nts _ _ p.1 p.2 h1)⟩
  | none =>
    cases h2 : declR [] 0 ets with
    | some p => exact ⟨fun _ => rfl, fun h => absurd h (declR_err ets _ _ p.1 p.2 h2)⟩
    | none =>
      cases h3 : nodeR nts [] 0 ns with
      | some p => exact ⟨fun _ => rfl, fun h => absurd h (nodeR_err nts ns _ _ p.1 p.2 h3)⟩
      | none =>
        simp only
        rw [edgeR_snoc]
        cases h4 : edgeR ets (ns.map ND.id) [] 0 es with
        | some p => exact ⟨fun _ => rfl, fun h => absurd h (edgeR_err ets _ es _ _ p.1 p.2 h4)⟩
        | none =>
          refine ⟨fun h => absurd rfl h, fun _ => ?_⟩
          simp only
          split
          · rename_i heq
            split at heq
            · cases heq
            · cases heq
              exact .inr ⟨_, by rw [Nat.zero_add]⟩
          · exact .inl rfl
/-- What is put behind the nodes of a graph that may be. -/
theorem check_node (nts ets : List TD) (ns : List ND) (es : List ED) (n : ND) (h : (checkR nts ets ns es).2.2 = 0) :
    (checkR nts ets (ns ++ [n]) es).2.2 = 0 ∨ ∃ er, checkR nts ets (ns ++ [n]) es = (3, ns.length, er) := by
  unfold checkR at h ⊢
  cases h1 : declR [] 0 nts with
  | some p => rw [h1] at h; exact absurd h (declR_err nts _ _ p.1 p.2 h1)
  | none =>
    rw [h1] at h
    cases h2 : declR [] 0 ets with
    | some p => rw [h2] at h; exact absurd h (declR_err ets _ _ p.1 p.2 h2)
    | none =>
      rw [h2] at h
      cases h3 : nodeR nts [] 0 ns with
      | some p => rw [h3] at h; exact absurd h (nodeR_err nts ns _ _ p.1 p.2 h3)
      | none =>
        rw [h3] at h
        cases h4 : edgeR ets (ns.map ND.id) [] 0 es with
        | some p => simp only [h4] at h; exact absurd h (edgeR_err ets _ es _ _ p.1 p.2 h4)
        | none =>
          simp only
          rw [nodeR_snoc, h3]
          simp only
          by_cases h5 : recErr nts ([] ++ ns.map ND.id) n.id n.key n.qs true = 0
          · rw [if_pos h5]
            simp only
            rw [List.map_append, List.map_cons, List.map_nil, edgeR_more ets _ n.id es [] 0 h4]
            exact .inl rfl
          · rw [if_neg h5]
            exact .inr ⟨_, by rw [Nat.zero_add]⟩
end Go.Proofs.YtffifhinhemkdaaDoor
