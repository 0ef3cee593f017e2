/- Plain laws of graphs in another order, of graphs in order. No program stands here. -/
import Derived.Test.YtffifhinhemkdaaDoorRgPl3
set_option linter.unusedVariables false
set_option linter.unusedSimpArgs false
namespace Go.Proofs.YtffifhinhemkdaaDoor

theorem recErr_mk {ts : List TD} {ids : List Int} {id : Int} {lb : List UInt8} {qs : List QD} (h1 : 0 ≤ id ∧ id ≤ 1099511627776) (h2 : ¬ id ∈ ids) (h3 : lb ∈ ts.map TD.key) (h4 : fitsB (typeOf ts lb).ps [] qs = true) : recErr ts ids id lb qs true = 0 := by
  unfold recErr
  rw [if_neg (by omega), if_neg h2, if_neg (fun h => h h3), if_neg (by decide), if_neg (by rw [h4]; decide)]
theorem nodeR_mk (ts : List TD) : ∀ (ns : List ND) (ids : List Int) (i : Nat), (ids ++ ns.map ND.id).Nodup → (∀ x ∈ ns, (0 ≤ x.id ∧ x.id ≤ 1099511627776) ∧ x.key ∈ ts.map TD.key ∧ fitsB (typeOf ts x.key).ps [] x.qs = true) → nodeR ts ids i ns = none
  | [], ids, i, _, _ => rfl
  | y :: r, ids, i, hn, hx => by
    have h0 := hx y (by simp)
    have hny : ¬ y.id ∈ ids := fun h => by
      rw [List.nodup_append] at hn
      exact hn.2.2 _ h _ (by simp) rfl
    rw [nodeR, if_pos (recErr_mk h0.1 hny h0.2.1 h0.2.2)]
    exact nodeR_mk ts r _ _ (by rw [List.append_assoc]; exact hn) (fun x hx2 => hx x (by simp [hx2]))
theorem edgeR_mk (ts : List TD) (nids : List Int) : ∀ (ns : List ED) (ids : List Int) (i : Nat), (ids ++ ns.map ED.id).Nodup → (∀ x ∈ ns, (0 ≤ x.id ∧ x.id ≤ 1099511627776) ∧ (x.key ∈ ts.map TD.key ∧ fitsB (typeOf ts x.key).ps [] x.qs = true) ∧ endsB nids x = true) → edgeR ts nids ids i ns = none
  | [], ids, i, _, _ => rfl
  | y :: r, ids, i, hn, hx => by
    have h0 := hx y (by simp)
    have hny : ¬ y.id ∈ ids := fun h => by
      rw [List.nodup_append] at hn
      exact hn.2.2 _ h _ (by simp) rfl
    rw [edgeR, h0.2.2, if_pos (recErr_mk h0.1 hny h0.2.1.1 h0.2.1.2)]
    exact edgeR_mk ts nids r _ _ (by rw [List.append_assoc]; exact hn) (fun x hx2 => hx x (by simp [hx2]))
theorem edgeR_ends (ts : List TD) (nids : List Int) : ∀ (ns : List ED) (ids : List Int) (i : Nat), edgeR ts nids ids i ns = none → ∀ x ∈ ns, (0 ≤ x.id ∧ x.id ≤ 1099511627776) ∧ endsB nids x = true
  | [], ids, i, h, x, hx => by cases hx
  | y :: r, ids, i, h, x, hx => by
    rw [edgeR] at h
    split at h
    · rename_i h0
      rcases List.mem_cons.1 hx with rfl | hx
      · exact ⟨recErr_id h0, recErr_ends h0⟩
      · exact edgeR_ends ts nids r _ _ h x hx
    · cases h
/-- A graph that may be, in full. -/
structure FullG (nts ets : List TD) (ns : List ND) (es : List ED) : Prop where
  fine : FineG nts ets ns es
  d1 : declR [] 0 nts = none
  d2 : declR [] 0 ets = none
  nid : ∀ x ∈ ns, 0 ≤ x.id ∧ x.id ≤ 1099511627776
  eid : ∀ x ∈ es, (0 ≤ x.id ∧ x.id ≤ 1099511627776) ∧ endsB (ns.map ND.id) x = true
theorem check_full {nts ets : List TD} {ns : List ND} {es : List ED} (h : (checkR nts ets ns es).2.2 = 0) : FullG nts ets ns es := by
  have hf := check_fine h
  unfold checkR at h
  cases h1 : declR [] 0 nts with
  | some p => rw [h1] at h; exact absurd h (declR_err nts _ _ p.1 p.2 h1)
  | none =>
    rw [h1] at h
    cases h2 : declR [] 0 ets with
    | some p => rw [h2] at h; exact absurd h (declR_err ets _ _ p.1 p.2 h2)
    | none =>
      rw [h2] at h
      cases h3 : nodeR nts [] 0 ns with
      | some p => rw [h3] at h; exact absurd h (nodeR_err nts ns _ _ p.1 p.2 h3)
      | none =>
        rw [h3] at h
        cases h4 : edgeR ets (ns.map ND.id) [] 0 es with
        | some p => simp only [h4] at h; exact absurd h (edgeR_err ets _ es _ _ p.1 p.2 h4)
        | none => exact ⟨hf, h1, h2, nodeR_ids nts ns _ _ h3, edgeR_ends ets _ es _ _ h4⟩
theorem full_check {nts ets : List TD} {ns : List ND} {es : List ED} (d1 : declR [] 0 nts = none) (d2 : declR [] 0 ets = none) (hn : (ns.map ND.id).Nodup) (he : (es.map ED.id).Nodup)
    (hns : ∀ x ∈ ns, (0 ≤ x.id ∧ x.id ≤ 1099511627776) ∧ x.key ∈ nts.map TD.key ∧ fitsB (typeOf nts x.key).ps [] x.qs = true)
    (hes : ∀ x ∈ es, (0 ≤ x.id ∧ x.id ≤ 1099511627776) ∧ (x.key ∈ ets.map TD.key ∧ fitsB (typeOf ets x.key).ps [] x.qs = true) ∧ endsB (ns.map ND.id) x = true) : checkR nts ets ns es = (0, 0, 0) := by
  unfold checkR
  rw [d1, d2, nodeR_mk nts ns [] 0 (by simpa using hn) hns]
  simp only
  rw [edgeR_mk ets _ es [] 0 (by simpa using he) hes]
theorem endsB_perm {l m : List Int} (h : ∀ x, x ∈ l ↔ x ∈ m) (e : ED) : endsB l e = endsB m e := by
  unfold endsB
  rw [decide_eq_decide.2 (h e.f), decide_eq_decide.2 (h e.t)]
/-- Another order, some edges left out: a graph that may be still. -/
theorem turn_check {nts ets : List TD} {ns ns2 : List ND} {es es2 l : List ED} (h : (checkR nts ets ns es).2.2 = 0) (h1 : ns2.Perm ns) (h2 : l.Sublist es) (h3 : es2.Perm l) : checkR nts ets ns2 es2 = (0, 0, 0) := by
  have hf := check_full h
  have hm : ∀ x ∈ es2, x ∈ es := fun x hx => h2.subset (h3.subset hx)
  refine full_check hf.d1 hf.d2 ((h1.map ND.id).nodup_iff.2 hf.fine.nids) ((h3.map ED.id).nodup_iff.2 (List.Sublist.nodup (h2.map ED.id) hf.fine.eids)) (fun x hx => ⟨hf.nid x (h1.subset hx), hf.fine.nlab x (h1.subset hx)⟩) (fun x hx => ⟨(hf.eid x (hm x hx)).1, hf.fine.elab_ x (hm x hx), ?_⟩)
  rw [endsB_perm (fun i => (h1.map ND.id).mem_iff) x]
  exact (hf.eid x (hm x hx)).2
/-- Two lists in order, of one another's members, by keys of which none is twice: they are one. -/
theorem perm_sorted {α : Type} (key : α → Int) : ∀ (l m : List α), l.Perm m → l.Pairwise (fun a b => key a ≤ key b) → m.Pairwise (fun a b => key a ≤ key b) → (l.map key).Nodup → l = m
  | [], m, h, _, _, _ => h.nil_eq
  | x :: r, [], h, _, _, _ => by have := h.length_eq; simp at this
  | x :: r, y :: s, h, hl, hm, hn => by
    have hx : x ∈ y :: s := h.subset (by simp)
    have hy : y ∈ x :: r := h.symm.subset (by simp)
    rw [List.pairwise_cons] at hl hm
    have hxy : x = y := by
      rcases List.mem_cons.1 hx with e | hx2
      · exact e
      · rcases List.mem_cons.1 hy with e | hy2
        · exact e.symm
        · have h1 := hl.1 y hy2
          have h2 := hm.1 x hx2
          have h3 : key x = key y := by omega
          rw [List.map_cons, List.nodup_cons] at hn
          exact absurd (by rw [h3]; exact List.mem_map_of_mem hy2) hn.1
    subst hxy
    rw [List.map_cons, List.nodup_cons] at hn
    rw [perm_sorted key r s (List.Perm.cons_inv h) hl.2 hm.2 hn.2]
theorem typeOf_con : ∀ (a b : List TD) (t : List UInt8), a.map TD.con = b.map TD.con → (typeOf a t).ps = (typeOf b t).ps
  | [], [], t, _ => rfl
  | [], y :: s, t, h => by cases h
  | x :: r, [], t, h => by cases h
  | x :: r, y :: s, t, h => by
    rw [List.map_cons, List.map_cons, List.cons.injEq] at h
    have hk : x.key = y.key := by
      have := congrArg Prod.fst h.1
      show x.s.data.toList = y.s.data.toList
      rw [show x.s = y.s from this]
    have hp : x.ps = y.ps := congrArg Prod.snd h.1
    have h2 := typeOf_con r s t h.2
    by_cases hx : x.key = t
    · have hy : y.key = t := by rw [← hk]; exact hx
      simp [typeOf, hx, hy, hp]
    · have hy : ¬ y.key = t := by rw [← hk]; exact hx
      unfold typeOf at h2 ⊢
      rw [List.find?_cons, List.find?_cons, decide_eq_false hx, decide_eq_false hy]
      exact h2
theorem keys_con {a b : List TD} (h : a.map TD.con = b.map TD.con) : a.map TD.key = b.map TD.key := by
  have h2 := congrArg (List.map (fun p : ByteArray × List PD => p.1.data.toList)) h
  rw [List.map_map, List.map_map] at h2
  exact h2
theorem typeErr_con {a b : TD} (h : a.con = b.con) (prev : List (List UInt8)) (i : Nat) : typeErr prev i a = typeErr prev i b := by
  have h1 : a.s = b.s := congrArg Prod.fst h
  have h2 : a.ps = b.ps := congrArg Prod.snd h
  have h3 : a.key = b.key := by unfold TD.key; rw [h1]
  unfold typeErr
  rw [h1, h2, h3]
theorem declR_con : ∀ (a b : List TD) (prev : List (List UInt8)) (i : Nat), a.map TD.con = b.map TD.con → declR prev i a = declR prev i b
  | [], [], _, _, _ => rfl
  | [], y :: s, _, _, h => by cases h
  | x :: r, [], _, _, h => by cases h
  | x :: r, y :: s, prev, i, h => by
    rw [List.map_cons, List.map_cons, List.cons.injEq] at h
    have hk : x.key = y.key := by
      have := congrArg Prod.fst h.1
      show x.s.data.toList = y.s.data.toList
      rw [show x.s = y.s from this]
    rw [declR, declR, typeErr_con h.1, hk, declR_con r s _ _ h.2]
end Go.Proofs.YtffifhinhemkdaaDoor
