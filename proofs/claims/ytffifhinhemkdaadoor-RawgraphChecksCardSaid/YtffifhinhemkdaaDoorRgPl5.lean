/- Plain laws of graphs in order: they may be; in order again they are the same. No program stands here. -/
import Derived.Test.YtffifhinhemkdaaDoorRgPl4
import Derived.Test.YtffifhinhemkdaaDoorRgSorted
set_option linter.unusedVariables false
set_option linter.unusedSimpArgs false
namespace Go.Proofs.YtffifhinhemkdaaDoor

theorem propsBad_nodup : ∀ (ps : List PD) (seen : List (List UInt8)), propsBad seen ps = false → seen.Nodup → (seen ++ ps.map PD.key).Nodup
  | [], seen, _, hn => by simpa using hn
  | p :: r, seen, h, hn => by
    rw [propsBad, Bool.or_eq_false_iff] at h
    have h1 := h.1
    unfold propBad at h1
    rw [Bool.or_eq_false_iff] at h1
    have hns : ¬ p.key ∈ seen := by simpa using h1.1
    have h2 := propsBad_nodup r (seen ++ [p.key]) h.2 (by
      rw [List.nodup_append]
      exact ⟨hn, by simp, fun a ha b hb e => by simp at hb; subst hb; exact hns (e ▸ ha)⟩)
    rw [List.append_assoc] at h2
    exact h2
theorem declR_props : ∀ (ts : List TD) (prev : List (List UInt8)) (i : Nat), declR prev i ts = none → ∀ t ∈ ts, (t.ps.map PD.key).Nodup
  | [], _, _, _, t, ht => by cases ht
  | x :: r, prev, i, h, t, ht => by
    rw [declR] at h
    split at h
    · rename_i h0
      rcases List.mem_cons.1 ht with rfl | ht
      · unfold typeErr at h0
        split at h0
        · cases h0
        · split at h0
          · cases h0
          · split at h0
            · cases h0
            · split at h0
              · cases h0
              · split at h0
                · cases h0
                · rename_i hb
                  have := propsBad_nodup t.ps [] (by simpa using hb) List.nodup_nil
                  simpa using this
      · exact declR_props r _ _ h t ht
    · cases h
theorem keepQ_key {d : PD} {q : QD} (h : keepQ d q = true) : q.key = d.key := by
  unfold keepQ at h
  rw [Bool.and_eq_true, decide_eq_true_iff] at h
  exact h.1
theorem keepQ_same {d e : PD} (h : d.key = e.key) : keepQ d = keepQ e := by
  funext q
  unfold keepQ
  rw [h]
theorem filter_keys (d : PD) : ∀ (qs : List QD), (qs.map QD.key).Nodup → ((qs.filter (keepQ d)).map QD.key).Sublist [d.key]
  | [], _ => by simp
  | q :: r, hn => by
    rw [List.map_cons, List.nodup_cons] at hn
    by_cases h : keepQ d q = true
    · rw [List.filter_cons_of_pos h, List.map_cons]
      have hr : r.filter (keepQ d) = [] := List.filter_eq_nil_iff.2 (fun x hx h2 => hn.1 (by
        rw [keepQ_key h, ← keepQ_key h2]
        exact List.mem_map_of_mem hx))
      rw [hr, keepQ_key h]
      exact List.Sublist.refl _
    · rw [List.filter_cons_of_neg h]
      exact filter_keys d r hn.2
theorem told_keys (qs : List QD) (hn : (qs.map QD.key).Nodup) : ∀ ps : List PD, ((toldL ps qs).map QD.key).Sublist (ps.map PD.key)
  | [] => by simp [toldL]
  | p :: r => by
    have h := told_keys qs hn r
    unfold toldL at h ⊢
    rw [List.flatMap_cons, List.map_append, List.map_cons]
    exact (filter_keys p qs hn).append h
theorem fitsB_all (ks : List PD) : ∀ (qs : List QD) (seen : List (List UInt8)), fitsB ks seen qs = true → ∀ q ∈ qs, q.key ∈ ks.map PD.key ∧ (q.v.right && (decide (q.v.k = 0) || decide (q.v.k = kindOf ks q.key))) = true
  | [], _, _, q, hq => by cases hq
  | x :: r, seen, h, q, hq => by
    rw [fitsB, Bool.and_eq_true] at h
    rcases List.mem_cons.1 hq with rfl | hq
    · have h1 := h.1
      unfold okQ at h1
      rw [Bool.and_eq_true, decide_eq_true_iff, Bool.and_eq_true] at h1
      exact ⟨h1.1, h1.2.2⟩
    · exact fitsB_all ks r _ h.2 q hq
theorem fitsB_mk (ks : List PD) : ∀ (qs : List QD) (seen : List (List UInt8)), (seen ++ qs.map QD.key).Nodup → (∀ q ∈ qs, q.key ∈ ks.map PD.key ∧ (q.v.right && (decide (q.v.k = 0) || decide (q.v.k = kindOf ks q.key))) = true) → fitsB ks seen qs = true
  | [], _, _, _ => rfl
  | x :: r, seen, hn, h => by
    have h0 := h x (by simp)
    have hns : ¬ x.key ∈ seen := fun hh => by
      rw [List.nodup_append] at hn
      exact hn.2.2 _ hh _ (by simp) rfl
    rw [fitsB, Bool.and_eq_true]
    refine ⟨?_, fitsB_mk ks r _ (by rw [List.append_assoc]; exact hn) (fun q hq => h q (by simp [hq]))⟩
    unfold okQ
    rw [decide_eq_true h0.1, decide_eq_false hns, h0.2]
    rfl
theorem told_fits {ks : List PD} {qs : List QD} (hk : (ks.map PD.key).Nodup) (h : fitsB ks [] qs = true) : fitsB ks [] (toldL ks qs) = true := by
  have hn := (fitsB_keys ks qs [] h List.nodup_nil (fun s hs => by cases hs)).1
  rw [List.nil_append] at hn
  refine fitsB_mk ks _ [] ?_ (fun q hq => fitsB_all ks qs [] h q (toldL_mem hq))
  rw [List.nil_append]
  exact (told_keys qs hn ks).nodup hk
theorem flat_one (F : List QD) (k : List UInt8) : ∀ ks : List PD, (ks.map PD.key).Nodup → k ∈ ks.map PD.key → ks.flatMap (fun e => if e.key = k then F else []) = F
  | [], _, h => by cases h
  | e :: r, hn, h => by
    rw [List.map_cons, List.nodup_cons] at hn
    rw [List.flatMap_cons]
    by_cases hk : e.key = k
    · rw [if_pos hk]
      have : r.flatMap (fun e => if e.key = k then F else []) = [] := by
        rw [List.flatMap_eq_nil_iff]
        intro x hx
        rw [if_neg (fun h2 => hn.1 (by rw [hk, ← h2]; exact List.mem_map_of_mem hx))]
      rw [this, List.append_nil]
    · rw [if_neg hk, List.nil_append]
      refine flat_one F k r hn.2 ?_
      rw [List.map_cons] at h
      rcases List.mem_cons.1 h with h | h
      · exact absurd h.symm hk
      · exact h
theorem told_filter {ks : List PD} (qs : List QD) {d : PD} (hk : (ks.map PD.key).Nodup) (hd : d ∈ ks) : (toldL ks qs).filter (keepQ d) = qs.filter (keepQ d) := by
  have e : ∀ e : PD, (qs.filter (keepQ e)).filter (keepQ d) = if e.key = d.key then qs.filter (keepQ d) else [] := fun e => by
    by_cases he : e.key = d.key
    · rw [if_pos he, keepQ_same he, List.filter_filter]
      congr 1
      funext q
      cases keepQ d q <;> rfl
    · rw [if_neg he]
      refine List.filter_eq_nil_iff.2 (fun q hq h2 => he ?_)
      rw [← keepQ_key (List.mem_filter.1 hq).2, keepQ_key h2]
  unfold toldL
  rw [List.filter_flatMap]
  have e2 : (fun e : PD => (qs.filter (keepQ e)).filter (keepQ d)) = fun e => if e.key = d.key then qs.filter (keepQ d) else [] := funext e
  have h := flat_one (qs.filter (keepQ d)) d.key ks hk (List.mem_map_of_mem hd)
  rw [← e2] at h
  exact h
theorem flatMap_same {α β : Type} (f g : α → List β) : ∀ l : List α, (∀ x ∈ l, f x = g x) → l.flatMap f = l.flatMap g
  | [], _ => rfl
  | x :: r, h => by
    rw [List.flatMap_cons, List.flatMap_cons, h x (by simp), flatMap_same f g r (fun y hy => h y (by simp [hy]))]
theorem told_twice {ks : List PD} (qs : List QD) (hk : (ks.map PD.key).Nodup) : toldL ks (toldL ks qs) = toldL ks qs :=
  flatMap_same _ _ ks (fun d hd => told_filter qs hk hd)
/-- What a graph in order has to do with the graph. -/
structure Ord (g a : GD) : Prop where
  nts : a.nts.map TD.con = g.nts.map TD.con
  ets : a.ets.map TD.con = g.ets.map TD.con
  ns : (a.ns.map ND.con).Perm (g.ns.map (toldN g.nts))
  es : (a.es.map ED.con).Perm (g.es.map (toldE g.ets))
  nsort : a.ns.Pairwise (fun a b => a.id ≤ b.id)
  esort : a.es.Pairwise (fun a b => a.id ≤ b.id)
theorem SortedG.ord {w W : World} {g a : GD} (h : SortedG w g W a) : Ord g a := ⟨h.nts, h.ets, h.ns, h.es, h.nsort, h.esort⟩
theorem conN_id (l : List ND) : (l.map ND.con).map (fun p => p.1) = l.map ND.id := by rw [List.map_map]; rfl
theorem conE_id (l : List ED) : (l.map ED.con).map (fun p => p.1) = l.map ED.id := by rw [List.map_map]; rfl
theorem toldN_id (ts : List TD) (l : List ND) : (l.map (toldN ts)).map (fun p => p.1) = l.map ND.id := by rw [List.map_map]; rfl
theorem toldE_id (ts : List TD) (l : List ED) : (l.map (toldE ts)).map (fun p => p.1) = l.map ED.id := by rw [List.map_map]; rfl
/-- Two graphs in order, of one another's records: they say the same. -/
theorem ord_same {g t a b : GD} (ha : Ord g a) (hb : Ord t b) (h1 : t.nts = g.nts) (h2 : t.ets = g.ets) (h3 : t.ns.Perm g.ns) (h4 : t.es.Perm g.es) (hn : (g.ns.map ND.id).Nodup) (he : (g.es.map ED.id).Nodup) :
    a.nts.map TD.con = b.nts.map TD.con ∧ a.ets.map TD.con = b.ets.map TD.con ∧ a.ns.map ND.con = b.ns.map ND.con ∧ a.es.map ED.con = b.es.map ED.con := by
  refine ⟨by rw [ha.nts, hb.nts, h1], by rw [ha.ets, hb.ets, h2], ?_, ?_⟩
  · refine perm_sorted (fun p => p.1) _ _ ?_ ?_ ?_ ?_
    · have h := hb.ns
      rw [h1] at h
      exact ha.ns.trans ((h3.map _).symm.trans h.symm)
    · rw [List.pairwise_map]
      exact ha.nsort
    · rw [List.pairwise_map]
      exact hb.nsort
    · have h := ha.ns.map (fun p => p.1)
      rw [toldN_id] at h
      exact h.nodup_iff.2 hn
  · refine perm_sorted (fun p => p.1) _ _ ?_ ?_ ?_ ?_
    · have h := hb.es
      rw [h2] at h
      exact ha.es.trans ((h4.map _).symm.trans h.symm)
    · rw [List.pairwise_map]
      exact ha.esort
    · rw [List.pairwise_map]
      exact hb.esort
    · have h := ha.es.map (fun p => p.1)
      rw [toldE_id] at h
      exact h.nodup_iff.2 he
theorem ordN_mem {g a : GD} (ha : Ord g a) {x : ND} (hx : x ∈ a.ns) : ∃ y ∈ g.ns, x.id = y.id ∧ x.lb = y.lb ∧ x.qs = toldL (typeOf g.nts y.key).ps y.qs := by
  obtain ⟨y, hy, e⟩ := List.mem_map.1 (ha.ns.subset (List.mem_map_of_mem hx))
  simp only [toldN, ND.con, Prod.mk.injEq] at e
  exact ⟨y, hy, e.1.symm, e.2.1.symm, e.2.2.symm⟩
theorem ordE_mem {g a : GD} (ha : Ord g a) {x : ED} (hx : x ∈ a.es) : ∃ y ∈ g.es, x.id = y.id ∧ x.lb = y.lb ∧ x.f = y.f ∧ x.t = y.t ∧ x.qs = toldL (typeOf g.ets y.key).ps y.qs := by
  obtain ⟨y, hy, e⟩ := List.mem_map.1 (ha.es.subset (List.mem_map_of_mem hx))
  simp only [toldE, ED.con, Prod.mk.injEq] at e
  exact ⟨y, hy, e.1.symm, e.2.1.symm, e.2.2.1.symm, e.2.2.2.1.symm, e.2.2.2.2.symm⟩
/-- A graph in order may be. -/
theorem ord_check {g a : GD} (hc : (checkR g.nts g.ets g.ns g.es).2.2 = 0) (ha : Ord g a) : checkR a.nts a.ets a.ns a.es = (0, 0, 0) := by
  have hf := check_full hc
  have hnid : (a.ns.map ND.id).Perm (g.ns.map ND.id) := by
    have h := ha.ns.map (fun p => p.1)
    rw [toldN_id, conN_id] at h
    exact h
  have heid : (a.es.map ED.id).Perm (g.es.map ED.id) := by
    have h := ha.es.map (fun p => p.1)
    rw [toldE_id, conE_id] at h
    exact h
  refine full_check (by rw [declR_con _ _ _ _ ha.nts]; exact hf.d1) (by rw [declR_con _ _ _ _ ha.ets]; exact hf.d2) (hnid.nodup_iff.2 hf.fine.nids) (heid.nodup_iff.2 hf.fine.eids) (fun x hx => ?_) (fun x hx => ?_)
  · obtain ⟨y, hy, e1, e2, e3⟩ := ordN_mem ha hx
    have hk : x.key = y.key := by unfold ND.key; rw [e2]
    have hl := hf.fine.nlab y hy
    refine ⟨by rw [e1]; exact hf.nid y hy, by rw [keys_con ha.nts, hk]; exact hl.1, ?_⟩
    rw [typeOf_con _ _ _ ha.nts, hk, e3]
    exact told_fits (declR_props g.nts [] 0 hf.d1 _ (typeOf_mem hl.1)) hl.2
  · obtain ⟨y, hy, e1, e2, e3, e4, e5⟩ := ordE_mem ha hx
    have hk : x.key = y.key := by unfold ED.key; rw [e2]
    have hl := hf.fine.elab_ y hy
    have hd := hf.eid y hy
    refine ⟨by rw [e1]; exact hd.1, ⟨by rw [keys_con ha.ets, hk]; exact hl.1, ?_⟩, ?_⟩
    · rw [typeOf_con _ _ _ ha.ets, hk, e5]
      exact told_fits (declR_props g.ets [] 0 hf.d2 _ (typeOf_mem hl.1)) hl.2
    · rw [endsB_perm (fun i => hnid.mem_iff) x]
      unfold endsB
      rw [e3, e4]
      exact hd.2
theorem map_same {α β : Type} (f g : α → β) : ∀ l : List α, (∀ x ∈ l, f x = g x) → l.map f = l.map g
  | [], _ => rfl
  | x :: r, h => by
    rw [List.map_cons, List.map_cons, h x (by simp), map_same f g r (fun y hy => h y (by simp [hy]))]
/-- A graph in order, put in order: it says the same. -/
theorem ord_again {g a c : GD} (hc : (checkR g.nts g.ets g.ns g.es).2.2 = 0) (ha : Ord g a) (h : Ord a c) :
    a.nts.map TD.con = c.nts.map TD.con ∧ a.ets.map TD.con = c.ets.map TD.con ∧ a.ns.map ND.con = c.ns.map ND.con ∧ a.es.map ED.con = c.es.map ED.con := by
  have hf := check_full hc
  have eN : a.ns.map (toldN a.nts) = a.ns.map ND.con := map_same _ _ _ (fun x hx => by
    obtain ⟨y, hy, e1, e2, e3⟩ := ordN_mem ha hx
    have hk : x.key = y.key := by unfold ND.key; rw [e2]
    have hl := hf.fine.nlab y hy
    unfold toldN ND.con
    rw [typeOf_con _ _ _ ha.nts, hk, e3, told_twice _ (declR_props g.nts [] 0 hf.d1 _ (typeOf_mem hl.1))])
  have eE : a.es.map (toldE a.ets) = a.es.map ED.con := map_same _ _ _ (fun x hx => by
    obtain ⟨y, hy, e1, e2, e3, e4, e5⟩ := ordE_mem ha hx
    have hk : x.key = y.key := by unfold ED.key; rw [e2]
    have hl := hf.fine.elab_ y hy
    unfold toldE ED.con
    rw [typeOf_con _ _ _ ha.ets, hk, e5, told_twice _ (declR_props g.ets [] 0 hf.d2 _ (typeOf_mem hl.1))])
  have hN := h.ns
  have hE := h.es
  rw [eN] at hN
  rw [eE] at hE
  refine ⟨h.nts.symm, h.ets.symm, ?_, ?_⟩
  · refine perm_sorted (fun p => p.1) _ _ hN.symm ?_ ?_ ?_
    · rw [List.pairwise_map]
      exact ha.nsort
    · rw [List.pairwise_map]
      exact h.nsort
    · have h2 := ha.ns.map (fun p => p.1)
      rw [toldN_id] at h2
      exact h2.nodup_iff.2 hf.fine.nids
  · refine perm_sorted (fun p => p.1) _ _ hE.symm ?_ ?_ ?_
    · rw [List.pairwise_map]
      exact ha.esort
    · rw [List.pairwise_map]
      exact h.esort
    · have h2 := ha.es.map (fun p => p.1)
      rw [toldE_id] at h2
      exact h2.nodup_iff.2 hf.fine.eids
end Go.Proofs.YtffifhinhemkdaaDoor
