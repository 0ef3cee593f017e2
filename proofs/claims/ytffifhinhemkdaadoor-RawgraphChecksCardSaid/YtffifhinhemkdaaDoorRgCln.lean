/- slices.Clone at the rows of a graph; rawgraph.cloned. -/
import Derived.Test.YtffifhinhemkdaaDoorRgRow2
import Derived.Deep.LoopGhost
set_option linter.unusedVariables false
set_option linter.unusedSimpArgs false
namespace Go.Proofs.YtffifhinhemkdaaDoor
open Go.RowKit

theorem own_below {W W' : World} {B n st : Nat} {e : TypeId} {v : Value} {xs : List Value} (h : W.ownsRow B e st v n xs) (hb : Below W.heap.size W W') : W'.ownsRow B e st v n xs :=
  h.kept (grown_below (r := none) hb) (by cases v.ownBlock <;> simp)
theorem own_shape {W : World} {B n st : Nat} {e : TypeId} {v : Value} {xs : List Value} (h : W.ownsRow B e st v n xs) : ∃ A c, v = .slice A n c := by
  rcases h.2 with ⟨e, e2⟩ | ⟨g, cap, cur, e, _⟩
  · exact ⟨none, 0, by rw [e, e2]⟩
  · exact ⟨_, _, e⟩
theorem flat_set {α : Type} (f : α → List Value) (st : Nat) (hf : ∀ x, (f x).length = st) (i : Nat) (v : Value) (y : α) : ∀ (l : List α) (k : Nat), i < st → (∀ x, l[k]? = some x → f y = (f x).set i v) → (l.set k y).flatMap f = (l.flatMap f).set (k * st + i) v
  | [], k, hi, h => by simp
  | x :: r, 0, hi, h => by
    rw [List.set_cons_zero, List.flatMap_cons, List.flatMap_cons, Nat.zero_mul, Nat.zero_add, List.set_append, if_pos (by rw [hf]; exact hi), h x rfl]
  | x :: r, k + 1, hi, h => by
    have e : ¬ (k + 1) * st + i < (f x).length := by rw [hf, Nat.add_mul]; omega
    have e2 : (k + 1) * st + i - (f x).length = k * st + i := by rw [hf, Nat.add_mul]; omega
    rw [List.set_cons_succ, List.flatMap_cons, List.flatMap_cons, List.set_append, if_neg e, e2, flat_set f st hf i v y r k hi (fun x hx => h x (by simpa using hx))]
set_option maxRecDepth 100000 in
set_option maxHeartbeats 3200000 in
theorem clone_P (A : Option Addr) (l : List PD) (c : Nat) (W : World) (hr : ReadsP W A l) (hb : l.length ≤ 1000000000000) :
    Calls Tryd.prog 40 #[.slice A l.length c] W fun e w' => ∃ A2 c2, e = .returned (.slice A2 l.length c2) ∧ w'.ownsRow W.heap.size 82 2 (.slice A2 l.length c2) l.length (l.flatMap cellsPD) ∧ Below W.heap.size W w' := by
  have q22 : ∀ (w : World) (a : Option Addr) (n c n' c' : Nat), (binOp .eql 39 (.slice a n c) (.slice none n' c')).run Tryd.prog w = .ok (.bool a.isNone) w := fun w a n c n' c' => Lib.run_eql_slice_nil w _ _ a n c n' c' Tryd.underlying39
  have HR := Aside0.mk hr
  obtain ⟨n, hn⟩ : ∃ n, n = l.length := ⟨_, rfl⟩
  have HN := Aside0.mk hn
  rw [← hn] at hb ⊢
  cases A with
  | none =>
    have h0 : l = [] := by
      cases l with
      | nil => rfl
      | cons y r => obtain ⟨ad, e, _⟩ := hr.row 0 (by simp); cases e
    have hn0 : n = 0 := by rw [hn, h0]; rfl
    have HZ := Aside0.mk (And.intro h0 hn0)
    clear hn hr h0 hn0
    go_enter Tryd.func40, Tryd.ntmps40
    go_wp2
    go_ret
    exact ⟨none, 0, by rw [HZ.out.2]; rfl, by rw [HZ.out.1, HZ.out.2]; exact World.ownsRow_nil _ _ _ _, Below.refl _ _⟩
  | some ad =>
    clear hn hr
    have hba := below_more (Below.refl W.heap.size W) (.cells #[] 82)
    have hoe := own_empty_P W W.heap.size (Nat.le_refl _)
    have hsz := hba.size
    go_enter Tryd.func40, Tryd.ntmps40
    go_wp2_with (at_builtin; go_loud (refine app_all_PL rfl (.tmp 5) (.tmp 6) rfl W.heap.size _ rfl hoe (some ad) l n c HN.out rfl (fun e => (by cases e)) (HR.out.below hba) hb hsz ?_); intro v2 Z hT0 hb0; obtain ⟨A2, c2, hv2⟩ := own_shape hT0; subst hv2)
    go_ret
    exact ⟨A2, c2, rfl, hT0, hba.trans hb0⟩
set_option maxRecDepth 100000 in
set_option maxHeartbeats 3200000 in
theorem clone_T (A : Option Addr) (l : List TD) (c : Nat) (W : World) (hr : ReadsT W A l) (hb : l.length ≤ 1000000000000) :
    Calls Tryd.prog 39 #[.slice A l.length c] W fun e w' => ∃ A2 c2, e = .returned (.slice A2 l.length c2) ∧ w'.ownsRow W.heap.size 41 2 (.slice A2 l.length c2) l.length (l.flatMap cellsTD) ∧ Below W.heap.size W w' := by
  have q22 : ∀ (w : World) (a : Option Addr) (n c n' c' : Nat), (binOp .eql 24 (.slice a n c) (.slice none n' c')).run Tryd.prog w = .ok (.bool a.isNone) w := fun w a n c n' c' => Lib.run_eql_slice_nil w _ _ a n c n' c' Tryd.underlying24
  have HR := Aside0.mk hr
  obtain ⟨n, hn⟩ : ∃ n, n = l.length := ⟨_, rfl⟩
  have HN := Aside0.mk hn
  rw [← hn] at hb ⊢
  cases A with
  | none =>
    have h0 : l = [] := by
      cases l with
      | nil => rfl
      | cons y r => obtain ⟨ad, e, _⟩ := hr.row 0 (by simp); cases e
    have hn0 : n = 0 := by rw [hn, h0]; rfl
    have HZ := Aside0.mk (And.intro h0 hn0)
    clear hn hr h0 hn0
    go_enter Tryd.func39, Tryd.ntmps39
    go_wp2
    go_ret
    exact ⟨none, 0, by rw [HZ.out.2]; rfl, by rw [HZ.out.1, HZ.out.2]; exact World.ownsRow_nil _ _ _ _, Below.refl _ _⟩
  | some ad =>
    clear hn hr
    have hba := below_more (Below.refl W.heap.size W) (.cells #[] 41)
    have hoe := own_empty_T W W.heap.size (Nat.le_refl _)
    have hsz := hba.size
    go_enter Tryd.func39, Tryd.ntmps39
    go_wp2_with (at_builtin; go_loud (refine app_all_TL rfl (.tmp 5) (.tmp 6) rfl W.heap.size _ rfl hoe (some ad) l n c HN.out rfl (fun e => (by cases e)) (HR.out.below hba) hb hsz ?_); intro v2 Z hT0 hb0; obtain ⟨A2, c2, hv2⟩ := own_shape hT0; subst hv2)
    go_ret
    exact ⟨A2, c2, rfl, hT0, hba.trans hb0⟩
set_option maxRecDepth 100000 in
set_option maxHeartbeats 3200000 in
theorem clone_N (A : Option Addr) (l : List ND) (c : Nat) (W : World) (hr : ReadsN W A l) (hb : l.length ≤ 2932031007401) :
    Calls Tryd.prog 22 #[.slice A l.length c] W fun e w' => ∃ A2 c2, e = .returned (.slice A2 l.length c2) ∧ w'.ownsRow W.heap.size 52 3 (.slice A2 l.length c2) l.length (l.flatMap cellsND) ∧ Below W.heap.size W w' := by
  have q22 : ∀ (w : World) (a : Option Addr) (n c n' c' : Nat), (binOp .eql 25 (.slice a n c) (.slice none n' c')).run Tryd.prog w = .ok (.bool a.isNone) w := fun w a n c n' c' => Lib.run_eql_slice_nil w _ _ a n c n' c' Tryd.underlying25
  have HR := Aside0.mk hr
  obtain ⟨n, hn⟩ : ∃ n, n = l.length := ⟨_, rfl⟩
  have HN := Aside0.mk hn
  rw [← hn] at hb ⊢
  cases A with
  | none =>
    have h0 : l = [] := by
      cases l with
      | nil => rfl
      | cons y r => obtain ⟨ad, e, _⟩ := hr.row 0 (by simp); cases e
    have hn0 : n = 0 := by rw [hn, h0]; rfl
    have HZ := Aside0.mk (And.intro h0 hn0)
    clear hn hr h0 hn0
    go_enter Tryd.func22, Tryd.ntmps22
    go_wp2
    go_ret
    exact ⟨none, 0, by rw [HZ.out.2]; rfl, by rw [HZ.out.1, HZ.out.2]; exact World.ownsRow_nil _ _ _ _, Below.refl _ _⟩
  | some ad =>
    clear hn hr
    have hba := below_more (Below.refl W.heap.size W) (.cells #[] 52)
    have hoe := own_empty_N W W.heap.size (Nat.le_refl _)
    have hsz := hba.size
    go_enter Tryd.func22, Tryd.ntmps22
    go_wp2_with (at_builtin; go_loud (refine app_all_NL rfl (.tmp 5) (.tmp 6) rfl W.heap.size _ rfl hoe (some ad) l n c HN.out rfl (fun e => (by cases e)) (HR.out.below hba) hb hsz ?_); intro v2 Z hT0 hb0; obtain ⟨A2, c2, hv2⟩ := own_shape hT0; subst hv2)
    go_ret
    exact ⟨A2, c2, rfl, hT0, hba.trans hb0⟩
set_option maxRecDepth 100000 in
set_option maxHeartbeats 3200000 in
theorem clone_E (A : Option Addr) (l : List ED) (c : Nat) (W : World) (hr : ReadsE W A l) (hb : l.length ≤ 2199023255551) :
    Calls Tryd.prog 23 #[.slice A l.length c] W fun e w' => ∃ A2 c2, e = .returned (.slice A2 l.length c2) ∧ w'.ownsRow W.heap.size 55 5 (.slice A2 l.length c2) l.length (l.flatMap cellsED) ∧ Below W.heap.size W w' := by
  have q22 : ∀ (w : World) (a : Option Addr) (n c n' c' : Nat), (binOp .eql 26 (.slice a n c) (.slice none n' c')).run Tryd.prog w = .ok (.bool a.isNone) w := fun w a n c n' c' => Lib.run_eql_slice_nil w _ _ a n c n' c' Tryd.underlying26
  have HR := Aside0.mk hr
  obtain ⟨n, hn⟩ : ∃ n, n = l.length := ⟨_, rfl⟩
  have HN := Aside0.mk hn
  rw [← hn] at hb ⊢
  cases A with
  | none =>
    have h0 : l = [] := by
      cases l with
      | nil => rfl
      | cons y r => obtain ⟨ad, e, _⟩ := hr.row 0 (by simp); cases e
    have hn0 : n = 0 := by rw [hn, h0]; rfl
    have HZ := Aside0.mk (And.intro h0 hn0)
    clear hn hr h0 hn0
    go_enter Tryd.func23, Tryd.ntmps23
    go_wp2
    go_ret
    exact ⟨none, 0, by rw [HZ.out.2]; rfl, by rw [HZ.out.1, HZ.out.2]; exact World.ownsRow_nil _ _ _ _, Below.refl _ _⟩
  | some ad =>
    clear hn hr
    have hba := below_more (Below.refl W.heap.size W) (.cells #[] 55)
    have hoe := own_empty_E W W.heap.size (Nat.le_refl _)
    have hsz := hba.size
    go_enter Tryd.func23, Tryd.ntmps23
    go_wp2_with (at_builtin; go_loud (refine app_all_EL rfl (.tmp 5) (.tmp 6) rfl W.heap.size _ rfl hoe (some ad) l n c HN.out rfl (fun e => (by cases e)) (HR.out.below hba) hb hsz ?_); intro v2 Z hT0 hb0; obtain ⟨A2, c2, hv2⟩ := own_shape hT0; subst hv2)
    go_ret
    exact ⟨A2, c2, rfl, hT0, hba.trans hb0⟩

/-- What a type says, wherever its properties lie. -/
def TD.con (t : TD) : ByteArray × List PD := (t.s, t.ps)
/-- Types on their own, so far as they are. -/
structure ClonedI (w : World) (ts : List TD) (v : Value) (W : World) (ts2 : List TD) : Prop where
  len : ts2.length = ts.length
  con : ts2.map TD.con = ts.map TD.con
  own : W.ownsRow w.heap.size 41 2 v ts.length (ts2.flatMap cellsTD)
  good : ∀ t ∈ ts2, goodTD W t
  off : ∀ t ∈ ts2, t.ps ≠ [] → ∀ ad, t.A = some ad → v.ownBlock ≠ some ad.block
  below : Below w.heap.size w W
theorem set_same {α β : Type} (f : α → β) (l : List α) (j : Nat) (y d : α) (hj : j < l.length) (h : f y = f (l.getD j d)) : (l.set j y).map f = l.map f := by
  rw [List.map_set, h]
  apply List.ext_getElem?
  intro i
  rw [List.getElem?_set]
  split
  · rename_i e
    subst e
    rw [List.length_map, if_pos hj, List.getElem?_map, List.getD_eq_getElem?_getD, List.getElem?_eq_getElem hj]
    rfl
  · rfl
theorem ClonedI.step {w wr W : World} {ts ts2 : List TD} {g n cg j : Nat} {A3 : Option Addr} {c3 : Nat} (h : ClonedI w ts (.slice (some ⟨g, 0, none⟩) n cg) wr ts2) (hj : j < ts2.length) (hb : Below wr.heap.size wr W)
    (hr : ReadsP W A3 (ts2.getD j TD.zero).ps) (hf : ∀ ad, A3 = some ad → wr.heap.size ≤ ad.block) :
    ClonedI w ts (.slice (some ⟨g, 0, none⟩) n cg) (W.setCell ⟨g, j * 2 + 1, none⟩ (.slice A3 (ts2.getD j TD.zero).ps.length c3)) (ts2.set j ⟨(ts2.getD j TD.zero).s, A3, (ts2.getD j TD.zero).ps, c3⟩) := by
  have hgl := h.own.lt g rfl
  have hnl : n = ts.length := by
    rcases h.own.2 with ⟨e, _⟩ | ⟨_, _, _, e, _⟩
    · cases e
    · exact (Value.slice.inj e).2.1
  subst hnl
  have hkk : ∀ k, k ≠ g → (W.setCell ⟨g, j * 2 + 1, none⟩ (.slice A3 (ts2.getD j TD.zero).ps.length c3)).heap[k]? = W.heap[k]? := fun k e => heap_setCell_other _ ⟨g, j * 2 + 1, none⟩ _ _ e
  refine ⟨by rw [List.length_set]; exact h.len, ?_, ?_, ?_, ?_, ?_⟩
  · refine (set_same TD.con ts2 j _ TD.zero hj ?_).trans h.con
    rfl
  · rw [flat_set cellsTD 2 cellsTD_len 1 (.slice A3 (ts2.getD j TD.zero).ps.length c3) _ ts2 j (by decide) (fun x hx => by
      have e : ts2.getD j TD.zero = x := by rw [List.getD_eq_getElem?_getD, hx]; rfl
      rw [e]
      rfl)]
    exact ((own_below h.own hb).stored (j * 2 + 1) _).1
  · intro t ht
    rcases List.mem_or_eq_of_mem_set ht with ht | rfl
    · have hg := (h.good t ht).below hb
      exact ⟨hg.1, hg.2.keep (fun ad e hne => hkk _ (fun e2 => h.off t ht hne ad e (by rw [e2]; rfl))) (fun p hp => hg.2.all p hp)⟩
    · exact ⟨(h.good _ (getD_in ts2 TD.zero j hj)).1, hr.keep (fun ad e _ => hkk _ (fun e2 => by have := hf ad e; omega)) (fun p hp => hr.all p hp)⟩
  · intro t ht hne ad e
    rcases List.mem_or_eq_of_mem_set ht with ht | rfl
    · exact h.off t ht hne ad e
    · intro e2
      have e3 : g = ad.block := Option.some.inj e2
      have := hf ad e
      omega
  · exact below_set (below_then h.below hb) (p := ⟨g, j * 2 + 1, none⟩) hgl.1 _
theorem ClonedI.first {w W : World} {ts : List TD} {A : Option Addr} {v : Value} (hr : ReadsT w A ts) (ho : W.ownsRow w.heap.size 41 2 v ts.length (ts.flatMap cellsTD)) (hb : Below w.heap.size w W) : ClonedI w ts v W ts :=
  ⟨rfl, rfl, ho, fun t ht => (hr.all t ht).below hb, fun t ht hne ad e e2 => by
    obtain ⟨hs, hp⟩ := hr.all t ht
    obtain ⟨ad2, e3, hh⟩ := hp.row 0 (List.length_pos_iff.2 hne)
    rw [e] at e3
    cases e3
    have h1 := hh.lt
    rw [block_add] at h1
    have := (ho.lt _ e2).1
    omega, hb⟩
theorem ClonedI.reads {w W : World} {ts ts2 : List TD} {v : Value} (h : ClonedI w ts v W ts2) (hl : ts.length ≤ 9223372036854775807) : ∃ A c, v = .slice A ts2.length c ∧ ReadsT W A ts2 ∧ ∀ ad, A = some ad → w.heap.size ≤ ad.block ∧ ad.block < W.heap.size := by
  have ho := h.own
  rw [← h.len] at ho
  exact readsT_own_at ho (by rw [h.len]; exact hl) h.good
set_option maxRecDepth 100000 in
set_option maxHeartbeats 6400000 in
theorem cloned_any (A : Option Addr) (ts : List TD) (c : Nat) (w : World) (hr : ReadsT w A ts) (hb : ts.length ≤ 1000000000000) (hp : ∀ t ∈ ts, t.ps.length ≤ 1000000000000) :
    Calls Tryd.prog 21 #[.slice A ts.length c] w fun e w' => ∃ v ts2, e = .returned v ∧ ClonedI w ts v w' ts2 := by
  have hcl := clone_T A ts c w hr hb
  obtain ⟨n, hn⟩ : ∃ n, n = ts.length := ⟨_, rfl⟩
  have HN := Aside0.mk hn
  have HR := Aside0.mk hr
  have HP := Aside0.mk hp
  rw [← hn] at hb hcl ⊢
  have hn9 : (n : Int) ≤ 1000000000000 := by omega
  clear hn hr hp
  go_enter Tryd.func21, Tryd.ntmps21
  go_upto_region 2 with (go_at_call 39; go_loud (refine hcl.mono ?_); (first | (rintro e W1 ⟨A1, c1, rfl, ho1, hb1⟩) | (intro e W1 A1 c1 he ho1 hb1; subst he)))
  have HC : Aside0 (ClonedI w ts (.slice A1 n c1) W1 ts) := ⟨ClonedI.first HR.out (by rw [← HN.out]; exact ho1) hb1⟩
  clear ho1 hb1 hcl
  go_wp2
  go_loopg [9] (n + 1) (fun gg s9 wx => ∃ (j : Nat), j ≤ n ∧ n < gg + j ∧ s9 = .int .i64 j ∧ ∃ ts2, Aside0 (ClonedI w ts (.slice A1 n c1) wx ts2))
  case atStart => exact ⟨0, by omega, by omega, rfl, ts, HC⟩
  case round =>
    obtain ⟨j, hj, hg, rfl, ts2, HI⟩ := hrel
    have hj0 : (0 : Int) ≤ (j : Int) := by omega
    by_cases hjt : j < n
    · have hjti : (j : Int) < (n : Int) := by omega
      have hjl : j < ts2.length := by have := HI.out.len; have := HN.out; omega
      obtain ⟨g, hA1⟩ : ∃ g, A1 = some ⟨g, 0, none⟩ := by
        rcases HI.out.own.2 with ⟨e, e2⟩ | ⟨g, cap, cur, e, _⟩
        · have := HN.out
          omega
        · exact ⟨g, (Value.slice.inj e).1⟩
      subst hA1
      have hgood := HI.out.good _ (getD_in ts2 TD.zero j hjl)
      have hck := clone_P (ts2.getD j TD.zero).A (ts2.getD j TD.zero).ps (ts2.getD j TD.zero).c wr hgood.2 (by
        have h1 : (ts2.getD j TD.zero).con ∈ ts.map TD.con := by rw [← HI.out.con]; exact List.mem_map_of_mem (getD_in ts2 TD.zero j hjl)
        obtain ⟨t, ht, e⟩ := List.mem_map.1 h1
        have e2 : t.ps = (ts2.getD j TD.zero).ps := congrArg Prod.snd e
        rw [← e2]
        exact HP.out t ht)
      have hcell : wr.cell? ⟨g, j * 2 + 1, none⟩ = some (.slice (ts2.getD j TD.zero).A (ts2.getD j TD.zero).ps.length (ts2.getD j TD.zero).c) := by
        have h := HI.out.own.cells (g := g) rfl (j * 2 + 1) _ (flat_at cellsTD 2 TD.zero cellsTD_len ts2 j 1 hjl (by decide))
        rw [add_zero_] at h
        exact h
      obtain ⟨q, hq⟩ : ∃ q, q = (ts2.getD j TD.zero).ps.length := ⟨_, rfl⟩
      obtain ⟨QA, hQA⟩ : ∃ QA, QA = (ts2.getD j TD.zero).A := ⟨_, rfl⟩
      obtain ⟨qc, hqc⟩ : ∃ qc, qc = (ts2.getD j TD.zero).c := ⟨_, rfl⟩
      rw [← hq, ← hQA, ← hqc] at hcell hck
      have HJ := Aside0.mk (And.intro hj (And.intro hg (And.intro hjl hq)))
      have hgl := HI.out.own.lt g rfl
      have HGL := Aside0.mk hgl
      obtain ⟨GJ, hGJ⟩ : ∃ GJ, GJ = gk := ⟨_, rfl⟩
      have HGJ := Aside0.mk hGJ
      rw [← hGJ] at HJ
      clear hGJ hj hg hjl hq hQA hqc hgood hgl
      have ho := HI.out.own
      rw [← HN.out] at ho
      have HO := Aside0.mk ho
      clear ho
      go_upto_region 6 with (go_at_call 40; go_loud (refine hck.mono ?_); (first | (rintro e W3 ⟨A3, c3, rfl, ho3, hb3⟩) | (intro e W3 A3 c3 he ho3 hb3; subst he)); have hc3 := (hb3.cell (p := ⟨g, j * 2 + 1, none⟩) HGL.out.2).trans hcell; have hf3 := (own_below HO.out hb3).frozenAt (j * 2 + 1))
      rw [HJ.out.2.2.2] at ho3
      have hgood := HI.out.good _ (getD_in ts2 TD.zero j HJ.out.2.2.1)
      obtain ⟨A4, c4, hv3, hr3, hfr3⟩ := readsP_own_at ho3 hgood.2.len (fun p hp => hgood.2.all p hp)
      cases hv3
      have HST := Aside0.mk (HI.out.step (A3 := A3) (c3 := c3) HJ.out.2.2.1 hb3 hr3 (fun ad e => (hfr3 ad e).1))
      rw [← HJ.out.2.2.2] at HST
      clear ho3 hr3 hfr3 hc3 hf3 hck hcell hgood
      go_wp2
      go_roundg (GJ - 1)
      case measure => have := HJ.out; have := HGJ.out; omega
      case rel => exact ⟨j + 1, by omega, by have := HJ.out; omega, by first | rfl | go_num, _, HST⟩
    · have hjn : j = n := by omega
      subst hjn
      go_wp2
      go_ret
      exact ⟨_, ts2, rfl, HI.out⟩
end Go.Proofs.YtffifhinhemkdaaDoor
