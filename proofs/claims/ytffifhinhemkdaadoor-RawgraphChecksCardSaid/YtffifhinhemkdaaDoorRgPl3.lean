/- Plain laws: what a graph that may be says of its types and records. No program stands here. -/
import Derived.Test.YtffifhinhemkdaaDoorRgPl2
import Derived.Test.YtffifhinhemkdaaDoorRgZone
set_option linter.unusedVariables false
set_option linter.unusedSimpArgs false
namespace Go.Proofs.YtffifhinhemkdaaDoor

theorem typeErr_ok {prev : List (List UInt8)} {i : Nat} {t : TD} (h : typeErr prev i t = 0) : i < 64 ∧ t.ps.length ≤ 32 := by
  unfold typeErr at h
  split at h
  · cases h
  · split at h
    · cases h
    · split at h
      · cases h
      · split at h
        · cases h
        · omega
theorem declR_bounds : ∀ (ts : List TD) (prev : List (List UInt8)) (i : Nat), declR prev i ts = none → (i ≤ 64 → i + ts.length ≤ 64) ∧ ∀ t ∈ ts, t.ps.length ≤ 32
  | [], prev, i, h => ⟨fun hi => by simpa using hi, fun t ht => by cases ht⟩
  | t :: r, prev, i, h => by
    rw [declR] at h
    split at h
    · rename_i h0
      have h1 := typeErr_ok h0
      have h2 := declR_bounds r _ _ h
      refine ⟨fun hi => ?_, fun x hx => ?_⟩
      · have := h2.1 (by omega)
        rw [List.length_cons]
        omega
      · rcases List.mem_cons.1 hx with rfl | hx
        · exact h1.2
        · exact h2.2 x hx
    · cases h
theorem recErr_ok {ts : List TD} {ids : List Int} {id : Int} {lb : List UInt8} {qs : List QD} {ends : Bool} (h : recErr ts ids id lb qs ends = 0) : ¬ id ∈ ids ∧ lb ∈ ts.map TD.key ∧ fitsB (typeOf ts lb).ps [] qs = true := by
  unfold recErr at h
  split at h
  · cases h
  · split at h
    · cases h
    · rename_i h2
      split at h
      · cases h
      · rename_i h3
        split at h
        · cases h
        · split at h
          · cases h
          · rename_i h5
            exact ⟨h2, by simpa using h3, by simpa using h5⟩
theorem nodeR_ok (ts : List TD) : ∀ (ns : List ND) (ids : List Int) (i : Nat), nodeR ts ids i ns = none → (ids.Nodup → (ids ++ ns.map ND.id).Nodup) ∧ ∀ x ∈ ns, x.key ∈ ts.map TD.key ∧ fitsB (typeOf ts x.key).ps [] x.qs = true
  | [], ids, i, h => ⟨fun h => by simpa using h, fun x hx => by cases hx⟩
  | y :: r, ids, i, h => by
    rw [nodeR] at h
    split at h
    · rename_i h0
      have h1 := recErr_ok h0
      have h2 := nodeR_ok ts r _ _ h
      refine ⟨fun hn => ?_, fun x hx => ?_⟩
      · have h3 := h2.1 (by
          rw [List.nodup_append]
          exact ⟨hn, by simp, fun a ha b hb e => by simp at hb; subst hb; exact h1.1 (e ▸ ha)⟩)
        rw [List.append_assoc] at h3
        exact h3
      · rcases List.mem_cons.1 hx with rfl | hx
        · exact h1.2
        · exact h2.2 x hx
    · cases h
theorem edgeR_ok (ts : List TD) (nids : List Int) : ∀ (ns : List ED) (ids : List Int) (i : Nat), edgeR ts nids ids i ns = none → (ids.Nodup → (ids ++ ns.map ED.id).Nodup) ∧ ∀ x ∈ ns, x.key ∈ ts.map TD.key ∧ fitsB (typeOf ts x.key).ps [] x.qs = true
  | [], ids, i, h => ⟨fun h => by simpa using h, fun x hx => by cases hx⟩
  | y :: r, ids, i, h => by
    rw [edgeR] at h
    split at h
    · rename_i h0
      have h1 := recErr_ok h0
      have h2 := edgeR_ok ts nids r _ _ h
      refine ⟨fun hn => ?_, fun x hx => ?_⟩
      · have h3 := h2.1 (by
          rw [List.nodup_append]
          exact ⟨hn, by simp, fun a ha b hb e => by simp at hb; subst hb; exact h1.1 (e ▸ ha)⟩)
        rw [List.append_assoc] at h3
        exact h3
      · rcases List.mem_cons.1 hx with rfl | hx
        · exact h1.2
        · exact h2.2 x hx
    · cases h
theorem nodup_len {α : Type} [DecidableEq α] : ∀ (l m : List α), l.Nodup → (∀ x ∈ l, x ∈ m) → l.length ≤ m.length
  | [], m, _, _ => Nat.zero_le _
  | x :: r, m, hn, hs => by
    rw [List.nodup_cons] at hn
    have hx : x ∈ m := hs x (by simp)
    have h := nodup_len r (m.erase x) hn.2 (fun y hy => (List.mem_erase_of_ne (fun e => hn.1 (by rw [← e]; exact hy))).2 (hs y (by simp [hy])))
    have h2 := List.length_erase_of_mem hx
    have h3 : 0 < m.length := List.length_pos_of_mem hx
    rw [List.length_cons]
    omega
theorem fitsB_keys (ks : List PD) : ∀ (qs : List QD) (seen : List (List UInt8)), fitsB ks seen qs = true → seen.Nodup → (∀ s ∈ seen, s ∈ ks.map PD.key) → (seen ++ qs.map QD.key).Nodup ∧ ∀ s ∈ seen ++ qs.map QD.key, s ∈ ks.map PD.key
  | [], seen, h, hn, hs => by
    rw [List.map_nil, List.append_nil]
    exact ⟨hn, hs⟩
  | q :: r, seen, h, hn, hs => by
    rw [fitsB, Bool.and_eq_true] at h
    have h1 := h.1
    unfold okQ at h1
    rw [Bool.and_eq_true, decide_eq_true_iff, Bool.and_eq_true] at h1
    have hns : ¬ q.key ∈ seen := by simpa using h1.2.1
    have h2 := fitsB_keys ks r (seen ++ [q.key]) h.2 (by
      rw [List.nodup_append]
      exact ⟨hn, by simp, fun a ha b hb e => by simp at hb; subst hb; exact hns (e ▸ ha)⟩) (fun s hs2 => by
      rcases List.mem_append.1 hs2 with hs2 | hs2
      · exact hs s hs2
      · simp at hs2
        subst hs2
        exact h1.1)
    rw [List.append_assoc] at h2
    exact h2
theorem fitsB_len {ks : List PD} {qs : List QD} (h : fitsB ks [] qs = true) : qs.length ≤ ks.length := by
  have h1 := fitsB_keys ks qs [] h List.nodup_nil (fun s hs => by cases hs)
  have h2 := nodup_len _ _ h1.1 h1.2
  simpa using h2
theorem toldL_len : ∀ (ps : List PD) (qs : List QD), (toldL ps qs).length ≤ ps.length * qs.length
  | [], qs => by simp [toldL]
  | p :: r, qs => by
    have h1 := toldL_len r qs
    have h2 : (qs.filter (keepQ p)).length ≤ qs.length := List.length_filter_le _ _
    unfold toldL at h1 ⊢
    rw [List.flatMap_cons, List.length_append, List.length_cons, Nat.add_mul, Nat.one_mul]
    omega
theorem typeOf_mem {ts : List TD} {t : List UInt8} (h : t ∈ ts.map TD.key) : typeOf ts t ∈ ts := by
  obtain ⟨i, hi, e, _⟩ := typeOf_at ts t h
  rw [← e]
  exact getD_in ts TD.zero i hi
theorem told_small {ts : List TD} {t : List UInt8} {qs : List QD} (hp : ∀ x ∈ ts, x.ps.length ≤ 32) (h : t ∈ ts.map TD.key) (hf : fitsB (typeOf ts t).ps [] qs = true) : (toldL (typeOf ts t).ps qs).length < 1000000000000 := by
  have h1 := toldL_len (typeOf ts t).ps qs
  have h2 := hp _ (typeOf_mem h)
  have h3 := fitsB_len hf
  have h4 : (typeOf ts t).ps.length * qs.length ≤ 32 * 32 := Nat.mul_le_mul h2 (by omega)
  omega
/-- A graph that may be. -/
structure FineG (nts ets : List TD) (ns : List ND) (es : List ED) : Prop where
  nt : nts.length ≤ 64 ∧ ∀ t ∈ nts, t.ps.length ≤ 32
  et : ets.length ≤ 64 ∧ ∀ t ∈ ets, t.ps.length ≤ 32
  ntd : (nts.map TD.key).Nodup
  etd : (ets.map TD.key).Nodup
  nids : (ns.map ND.id).Nodup
  eids : (es.map ED.id).Nodup
  nlab : ∀ x ∈ ns, x.key ∈ nts.map TD.key ∧ fitsB (typeOf nts x.key).ps [] x.qs = true
  elab_ : ∀ x ∈ es, x.key ∈ ets.map TD.key ∧ fitsB (typeOf ets x.key).ps [] x.qs = true
theorem check_fine {nts ets : List TD} {ns : List ND} {es : List ED} (h : (checkR nts ets ns es).2.2 = 0) : FineG nts ets ns es := by
  unfold checkR at h
  cases h1 : declR [] 0 nts with
  | some p => rw [h1] at h; exact absurd h (declR_err nts _ _ p.1 p.2 h1)
  | none =>
    rw [h1] at h
    cases h2 : declR [] 0 ets with
    | some p => rw [h2] at h; exact absurd h (declR_err ets _ _ p.1 p.2 h2)
    | none =>
      rw [h2] at h
      cases h3 : nodeR nts [] 0 ns with
      | some p => rw [h3] at h; exact absurd h (nodeR_err nts ns _ _ p.1 p.2 h3)
      | none =>
        rw [h3] at h
        cases h4 : edgeR ets (ns.map ND.id) [] 0 es with
        | some p => simp only [h4] at h; exact absurd h (edgeR_err ets _ es _ _ p.1 p.2 h4)
        | none =>
          have b1 := declR_bounds nts _ _ h1
          have b2 := declR_bounds ets _ _ h2
          have b3 := nodeR_ok nts ns _ _ h3
          have b4 := edgeR_ok ets _ es _ _ h4
          exact ⟨⟨by have := b1.1 (by omega); omega, b1.2⟩, ⟨by have := b2.1 (by omega); omega, b2.2⟩, by simpa using declR_nodup nts [] 0 h1 List.nodup_nil, by simpa using declR_nodup ets [] 0 h2 List.nodup_nil, by simpa using b3.1 List.nodup_nil, by simpa using b4.1 List.nodup_nil, b3.2, b4.2⟩
end Go.Proofs.YtffifhinhemkdaaDoor
