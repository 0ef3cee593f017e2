/- record of anything. -/
import Derived.Test.YtffifhinhemkdaaDoorRgFit
set_option linter.unusedVariables false
set_option linter.unusedSimpArgs false
namespace Go.Proofs.YtffifhinhemkdaaDoor
open Go.RowKit Go.Maps

/-- The first type with a key. -/
def typeOf (ts : List TD) (t : List UInt8) : TD := (ts.find? (fun x => decide (x.key = t))).getD TD.zero
theorem typeOf_is : ∀ (ts : List TD) (x : TD), (ts.map TD.key).Nodup → x ∈ ts → typeOf ts x.key = x
  | [], x, _, h => by cases h
  | y :: r, x, hn, h => by
    rw [List.map_cons, List.nodup_cons] at hn
    rcases List.mem_cons.1 h with rfl | h
    · simp [typeOf]
    · have hne : ¬ y.key = x.key := fun e => hn.1 (by rw [e]; exact List.mem_map_of_mem h)
      have h2 := typeOf_is r x hn.2 h
      unfold typeOf at h2 ⊢
      rw [List.find?_cons, decide_eq_false hne]
      exact h2
/-- A record's error, ends being whether its ends are there. -/
def recErr (ts : List TD) (ids : List Int) (id : Int) (lb : List UInt8) (qs : List QD) (ends : Bool) : Int :=
  if id < 0 ∨ 1099511627776 < id then 44 else if id ∈ ids then 42 else if ¬ lb ∈ ts.map TD.key then 45 else if ends = false then 46 else if fitsB (typeOf ts lb).ps [] qs = false then 47 else 0
theorem look_type {W : World} {B b : Nat} {l : List (TD × Nat)} (h : TypesIs W B b l) (s : ByteArray) (hs : s.size ≤ 9223372036854775807) :
    ∃ c, (Instr.lookup 45 (.map (some b)) (.string s) true).run Tryd.prog W = .ok (.tuple #[.map c, .bool (decide (s.data.toList ∈ l.map fun x => x.1.key))]) W ∧
      (s.data.toList ∈ (l.map fun x => x.1.key) → ∃ x ∈ l, x.1.key = s.data.toList ∧ c = some x.2) := by
  have hkey : keyOf Tryd.prog 9 (.string s) = some (.string s.data.toList) := WideMaps.keyOf_string_mk Tryd.underlying9 (by unfold maxLen; omega)
  obtain ⟨v, ps, hrun, hv⟩ := h.map.look_ok (t := 45) (e := 79) law Tryd.underlying45 (zero_kinds W) (zd := .lit (.int .i64 (-1))) (zp := []) rfl hkey
  obtain ⟨c, rfl, hc⟩ := mapElem_inv hv
  simp only [Prod.mk.injEq] at hc
  rw [mapD_has (fun x : TD × Nat => x.1.key) (fun x => .lit (.int .i64 (x.2 : Int))) l.length l s.data.toList rfl] at hrun
  refine ⟨c, hrun, fun hin => ?_⟩
  obtain ⟨x, hx, h1, h2⟩ := mapD_yes (fun x : TD × Nat => x.1.key) (fun x => .lit (.int .i64 (x.2 : Int))) l.length l s.data.toList (.lit (.int .i64 (-1))) rfl hin
  refine ⟨x, hx, h1, encB_inj ?_⟩
  have h3 := hc.1.symm.trans h2
  cases c <;> first | (simp [encB] at h3; done) | simpa [encB] using h3
set_option maxRecDepth 100000 in
set_option maxHeartbeats 6400000 in
theorem record_any (l : List (TD × Nat)) (ts : List TD) (ids : List Int) (id : Int) (lb : ByteArray) (qs : List QD) (ends : Bool) (A : Option Addr) (B bt bi c : Nat) (w : World) (hl : l.map Prod.fst = ts) (hnd : (ts.map TD.key).Nodup) (ht : TypesIs w B bt l) (hi : IdsIs w bi ids) (hib : bi < B) (hr : ReadsQ w A qs) (hlb : lb.size ≤ 9223372036854775807) (hN : ids.length < 9223372036854775807) :
    Calls Tryd.prog 17 #[.map (some bt), .map (some bi), .int .i64 id, .string lb, .slice A qs.length c, .bool ends] w fun e w' => e = .returned (.int .i64 (recErr ts ids id lb.data.toList qs ends)) ∧ IdsIs w' bi (if recErr ts ids id lb.data.toList qs ends = 0 then ids ++ [id] else ids) ∧ w.grownBy w' (some bi) := by
  obtain ⟨cc, hrun, hcc⟩ := look_type ht lb hlb
  have HKL := keys_l hl
  rw [HKL] at hrun hcc
  obtain ⟨E, hE⟩ : ∃ E, E = recErr ts ids id lb.data.toList qs ends := ⟨_, rfl⟩
  rw [← hE]
  obtain ⟨iz, hiz⟩ : ∃ iz, iz = decide (lb.data.toList ∈ ts.map TD.key) := ⟨_, rfl⟩
  rw [← hiz] at hrun
  have HW : Aside0 (w.grownBy w (some bi)) := ⟨World.grownBy.refl _ _⟩
  by_cases h44 : id < 0 ∨ 1099511627776 < id
  · have hE2 : E = 44 := by rw [hE, recErr, if_pos h44]
    have HI := Aside0.mk hi
    clear hE hiz hcc hi ht hr HKL hl hnd
    subst hE2
    rcases h44 with h | h
    · go_enter Tryd.func17, Tryd.ntmps17
      go_wp2
      go_ret
      exact ⟨rfl, HI.out, HW.out⟩
    · have h0 : ¬ id < 0 := by omega
      go_enter Tryd.func17, Tryd.ntmps17
      go_wp2
      go_ret
      exact ⟨rfl, HI.out, HW.out⟩
  have h0 : ¬ id < 0 := by omega
  have h1 : ¬ 1099511627776 < id := by omega
  have hwf : (Lit.int .i64 id).wf = true := by
    simp [Lit.wf, IntKind.min, IntKind.max, IntKind.signed, IntKind.bits]
    omega
  have hkey : keyOf Tryd.prog 2 (.int .i64 id) = some (.int .i64 id) := keyOf_int_mk Tryd.underlying2 hwf
  have hls := look_set (t := 44) hi lawI Tryd.underlying44 hkey (setI_at _ _ _ rfl)
  by_cases h42 : id ∈ ids
  · have hE2 : E = 42 := by rw [hE, recErr, if_neg h44, if_pos h42]
    have HI := Aside0.mk hi
    rw [decide_eq_true h42] at hls
    clear hE hiz hcc hi ht hr HKL hl hnd h44 h42 hwf hkey
    subst hE2
    go_enter Tryd.func17, Tryd.ntmps17
    go_wp2
    go_ret
    exact ⟨rfl, HI.out, HW.out⟩
  rw [decide_eq_false h42] at hls
  by_cases h45 : lb.data.toList ∈ ts.map TD.key
  case neg =>
    have hE2 : E = 45 := by rw [hE, recErr, if_neg h44, if_neg h42, if_pos h45]
    have HI := Aside0.mk hi
    rw [decide_eq_false h45] at hiz
    clear hE hcc hi ht hr HKL hl hnd h44 h42 hwf hkey h45
    subst hE2 hiz
    go_enter Tryd.func17, Tryd.ntmps17
    go_wp2
    go_ret
    exact ⟨rfl, HI.out, HW.out⟩
  rw [decide_eq_true h45] at hiz
  subst hiz
  cases ends with
  | false =>
    have hE2 : E = 46 := by rw [hE, recErr, if_neg h44, if_neg h42, if_neg (fun h => h h45)]; rfl
    have HI := Aside0.mk hi
    clear hE hcc hi ht hr HKL hl hnd h44 h42 hwf hkey h45
    subst hE2
    go_enter Tryd.func17, Tryd.ntmps17
    go_wp2
    go_ret
    exact ⟨rfl, HI.out, HW.out⟩
  | true =>
    obtain ⟨x, hx, hxk, rfl⟩ := hcc h45
    have hxt : x.1 ∈ ts := by rw [← hl]; exact List.mem_map_of_mem hx
    have hto := typeOf_is ts x.1 hnd hxt
    rw [hxk] at hto
    have hfi := fits_any x.1.ps qs A x.2 c w (ht.kinds x hx).1 hr
    have hE1 : E = if fitsB x.1.ps [] qs = false then 47 else 0 := by rw [hE, recErr, if_neg h44, if_neg h42, if_neg (fun h => h h45), hto]; rfl
    have HI := Aside0.mk hi
    have HIK := Aside0.mk hkey
    obtain ⟨bx, hbx⟩ : ∃ bx, bx = x.2 := ⟨_, rfl⟩
    obtain ⟨m, hm⟩ : ∃ m, m = qs.length := ⟨_, rfl⟩
    rw [← hbx] at hfi hrun
    rw [← hm] at hfi ⊢
    have hm9 : (m : Int) ≤ 9223372036854775807 := by have := hr.len; omega
    clear hE hi ht hr HKL hl hnd h44 h42 hwf hkey h45 hto hxt hxk hx hbx hm
    cases hf : fitsB x.1.ps [] qs with
    | false =>
      rw [hf] at hfi hE1
      clear hf
      obtain rfl : E = 47 := hE1
      (try clear hE1)
      go_enter Tryd.func17, Tryd.ntmps17
      go_wp2_with (go_at_call 35; go_loud (refine hfi.mono ?_))
      first
        | (intro e W6 he hb6; subst he)
        | rintro e W6 ⟨rfl, hb6⟩
      go_wp2
      go_ret
      exact ⟨rfl, HI.out.below hb6, grown_below hb6⟩
    | true =>
      rw [hf] at hfi hE1
      clear hf
      obtain rfl : E = 0 := hE1
      (try clear hE1)
      go_enter Tryd.func17, Tryd.ntmps17
      go_upto_region 12 with (go_at_call 35; go_loud (refine hfi.mono ?_))
      first
        | (intro e W6 he hb6; subst he)
        | rintro e W6 ⟨rfl, hb6⟩
      have hown6 : IdsIs W6 bi ids := HI.out.below hb6
      unfold IdsIs at hown6
      obtain ⟨ln, hln⟩ : ∃ ln, ln = ids.length := ⟨_, rfl⟩
      rw [← hln] at hown6
      have hlm : ln < maxLen := by unfold maxLen; omega
      have HLN := Aside0.mk hln
      have HB6 := Aside0.mk hb6
      clear hfi hrun hls hb6 hln
      go_wp2_with (at_mapUpdate; go_loud (refine wpList_mapUpdate_own _ rfl _ _ _ 44 rfl 2 4 lawI Tryd.underlying44 _ bi ln (setI ids) rfl hown6 hlm _ _ _ rfl rfl HIK.out _ [] (plainElem_bool Tryd.underlying4 true) ?_))
      intro W7 hown7 hg7
      have HI7 : Aside0 (IdsIs W7 bi (ids ++ [id])) := ⟨IdsIs.more (by rw [← HLN.out]; exact hown7)⟩
      have HG7 : Aside0 (w.grownBy W7 (some bi)) := ⟨(grown_below HB6.out).trans hg7⟩
      clear hown7 hg7 hown6
      go_wp2
      go_ret
      exact ⟨rfl, HI7.out, HG7.out⟩
end Go.Proofs.YtffifhinhemkdaaDoor
