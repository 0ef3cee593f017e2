/- The printer's writer: say, want, named, name. -/
import Derived.Test.YtkchpgjjkckfbaaDoorPrP
import Derived.Test.YtkchpgjjkckfbaaDoorPrB
set_option linter.unusedVariables false
set_option linter.unusedSimpArgs false
namespace Go.Proofs.YtkchpgjjkckfbaaDoor
open Go.RowKit

theorem WB.below {B b : Nat} {p : Value} {bs : List Value} {wr : Bool} {w w' : World} (h : WB B b p bs wr w) (hb : Below w.heap.size w w') : WB B b p bs wr w' := by
  have hlt := h.lt
  obtain ⟨hB, v, hbk, hown, hne⟩ := h
  refine ⟨hB, v, (hb.block b hlt).trans hbk, ⟨hown.1, ?_⟩, hne⟩
  rcases hown.2 with hn | ⟨g, cap, cur, fz, rfl, hg, hgg, rest⟩
  · exact .inl hn
  · exact .inr ⟨g, cap, cur, fz, rfl, hg, (hb.block g (Array.getElem?_eq_some_iff.1 hgg).1).trans hgg, rest⟩
theorem IsW.below {B b : Nat} {bs : List UInt8} {wr : Bool} {w w' : World} (h : IsW B b bs wr w) (hb : Below w.heap.size w w') : IsW B b bs wr w' := h.imp (·.below hb) (·.below hb)
theorem kept_below {b : Nat} {w w' : World} (hb : Below w.heap.size w w') : KeptB b w w' := fun k o hk _ _ => (hb.block k (Array.getElem?_eq_some_iff.1 hk).1).trans hk
/-- What is said, text by text. -/
def sayL (bs : List UInt8) : List ByteArray → List UInt8
  | [] => bs
  | s :: r => sayL (if bs.length ≤ 4096 then bs ++ s.data.toList else bs) r
theorem sayL_snoc : ∀ (l : List ByteArray) (bs : List UInt8) (s : ByteArray), sayL bs (l ++ [s]) = (if (sayL bs l).length ≤ 4096 then sayL bs l ++ s.data.toList else sayL bs l)
  | [], bs, s => rfl
  | t :: r, bs, s => by rw [List.cons_append, sayL, sayL_snoc r]; rfl
theorem sayL_small {m : Nat} : ∀ (l : List ByteArray) (bs : List UInt8), bs.length ≤ 140737488355328 → (∀ t ∈ l, t.size ≤ 140737488351232) → (sayL bs l).length ≤ 140737488355328
  | [], bs, h, _ => h
  | t :: r, bs, h, ht => by
    rw [sayL]
    refine sayL_small (m := m) r _ ?_ (fun x hx => ht x (List.mem_cons_of_mem _ hx))
    have h1 := ht t (List.mem_cons_self ..)
    split
    · rw [List.length_append]
      have : t.data.toList.length = t.size := rfl
      omega
    · exact h
theorem CutT.says : ∀ (l : List ByteArray) (T bs : List UInt8), CutT T bs → CutT (T ++ (l.map fun s => s.data.toList).flatten) (sayL bs l)
  | [], T, bs, h => by simpa [sayL] using h
  | s :: r, T, bs, h => by
    rw [sayL, List.map_cons, List.flatten_cons, ← List.append_assoc]
    exact CutT.says r _ _ (h.say _)
theorem cellAt_of {w : World} {r : Nat} {ts : List ByteArray} {fz : Nat × Nat} (h : w.heap[r]? = some (.cells (ts.map Value.string).toArray 9 fz)) (k : Nat) (hk : k < ts.length) : w.cell? ⟨r, k, none⟩ = some (.string (ts.getD k ⟨#[]⟩)) := by
  rw [Lib.cell_of_heap h]
  simp [List.getD, hk]
set_option maxRecDepth 100000 in
set_option maxHeartbeats 1600000 in
theorem w_say (B b r c n : Nat) (ts : List ByteArray) (bs : List UInt8) (fl : Bool) (w : World) (fz : Nat × Nat) (h : IsW B b bs fl w) (hBw : B ≤ w.heap.size) (hn : n = ts.length)
    (hr : w.heap[r]? = some (.cells (ts.map Value.string).toArray 9 fz)) (hlen : bs.length ≤ 140737488355328) (hts : ∀ t ∈ ts, t.size ≤ 140737488351232) (hn9 : n ≤ 100) :
    Calls Tryd.prog 28 #[.pointer (some ⟨b, 0, none⟩), .slice (some ⟨r, 0, none⟩) n c] w fun e w' => e = .returned (.tuple #[]) ∧ (IsW B b (sayL bs ts) fl w' ∧ Below B w w' ∧ KeptB b w w') := by
  have HN := Aside0.mk hn
  have HR := Aside0.mk hr
  have HI := Aside0.mk h
  have HT := Aside0.mk (And.intro hlen hts)
  have hrb : some r ≠ some b := by
    intro e
    obtain rfl : r = b := Option.some.inj e
    rcases h with h | h <;> (obtain ⟨_, v, hb, _⟩ := h; rw [hr] at hb; simp at hb)
  have hrt : ∀ cc ff, Obj.cells (ts.map Value.string).toArray 9 fz ≠ .cells cc 5 ff := by intro cc ff e; simp at e
  have HX := Aside0.mk (And.intro hrb hrt)
  clear hn hr h hlen hts hrb hrt
  go_enter Tryd.func28, Tryd.ntmps28
  go_wp2
  go_loopg [8] (n + 1) (fun gg s8 wx => ∃ k : Nat, k ≤ n ∧ n < gg + k ∧ s8 = .int .i64 k ∧ Aside0 (IsW B b (sayL bs (ts.take k)) fl wx) ∧ Aside0 (Below B w wx) ∧ Aside0 (KeptB b w wx))
  case atStart => exact ⟨0, by omega, by omega, rfl, ⟨by rw [List.take_zero]; exact HI.out⟩, ⟨Below.refl _ _⟩, ⟨Lib.OthersKept.refl _ _ _⟩⟩
  case round =>
    obtain ⟨k, hk, hg, rfl, HW, HB, HK⟩ := hrel
    by_cases hkn : k < n
    · have hkni : (k : Int) < (n : Int) := by omega
      have hkl : k < ts.length := by have := HN.out; omega
      have hr2 := HK.out r _ HR.out HX.out.1 HX.out.2
      have hcell := cellAt_of hr2 k hkl
      have htake : ts.take (k + 1) = ts.take k ++ [ts.getD k ⟨#[]⟩] := by
        rw [List.take_add_one]
        simp [List.getD, hkl]
      have hsz : (ts.getD k ⟨#[]⟩).size ≤ 140737488351232 := HT.out.2 _ (by rw [List.getD_eq_getElem?_getD, List.getElem?_eq_getElem hkl]; exact List.getElem_mem _)
      have hnew := sayL_snoc (ts.take k) bs (ts.getD k ⟨#[]⟩)
      rw [← htake] at hnew
      have hcur : (sayL bs (ts.take k)).length ≤ 140737488355328 := sayL_small (m := 0) _ _ HT.out.1 (fun t ht => HT.out.2 t (List.mem_of_mem_take ht))
      obtain ⟨s, hs⟩ : ∃ s, s = ts.getD k ⟨#[]⟩ := ⟨_, rfl⟩
      rw [← hs] at hcell hnew hsz
      obtain ⟨cur, hcu⟩ : ∃ cur, cur = sayL bs (ts.take k) := ⟨_, rfl⟩
      rw [← hcu] at hnew hcur HW
      have HNEW := Aside0.mk hnew
      have HZ := Aside0.mk (And.intro hsz hcur)
      clear hs hcu hnew htake hr2 hkl hsz hcur
      have hlen := w_len B b cur fl wr HW.out
      by_cases h4 : cur.length ≤ 4096
      · have h4i : (cur.length : Int) ≤ 4096 := by omega
        have HH := Aside0.mk h4
        clear h4
        have htx := w_text B b cur fl s wr HW.out (by have := HZ.out; have := HH.out; omega) (by have := HB.out.size; omega)
        go_wp2_with (first | (go_at_call 39; refine hlen.mono ?_; rintro e w2 ⟨rfl, rfl⟩) | (go_at_call 49; refine htx.mono ?_; rintro e w3 ⟨rfl, h3, hb3, hk3⟩))
        go_roundg (gk - 1)
        case measure => omega
        case rel => exact ⟨k + 1, by omega, by omega, by first | rfl | go_num, ⟨by rw [HNEW.out, if_pos HH.out]; exact h3⟩, ⟨HB.out.trans hb3⟩, ⟨HK.out.trans hk3⟩⟩
      · have h4i : ¬ (cur.length : Int) ≤ 4096 := by omega
        have HH := Aside0.mk h4
        clear h4
        go_wp2_with (go_at_call 39; refine hlen.mono ?_; rintro e w2 ⟨rfl, rfl⟩)
        go_roundg (gk - 1)
        case measure => omega
        case rel => exact ⟨k + 1, by omega, by omega, by first | rfl | go_num, ⟨by rw [HNEW.out, if_neg HH.out]; exact HW.out⟩, HB, HK⟩
    · obtain rfl : k = n := by omega
      have HD : Aside0 (sayL bs (ts.take k) = sayL bs ts) := ⟨by rw [HN.out, List.take_length]⟩
      go_wp2
      go_end0
      exact ⟨rfl, by rw [← HD.out]; exact HW.out, HB.out, HK.out⟩

set_option maxRecDepth 100000 in
theorem w_want (B b : Nat) (bs : List UInt8) (fl q : Bool) (w : World) (h : IsW B b bs fl w) :
    Calls Tryd.prog 18 #[.pointer (some ⟨b, 0, none⟩), .bool q] w fun e w' => e = .returned (.tuple #[]) ∧ (IsW B b bs (fl || !q) w' ∧ Below B w w' ∧ KeptB b w w') := by
  have hc := h.cell2
  have hf := h.frozen 2
  have HI := Aside0.mk h
  have hB := h.ge
  clear h
  cases fl <;> cases q
  all_goals
    go_enter Tryd.func18, Tryd.ntmps18
    go_wp2
    go_end0
    exact ⟨rfl, HI.out.flag _, (Below.refl _ _).setCell (p := ⟨b, 2, none⟩) hB _, (Lib.OthersKept.refl _ _ _).setCell ⟨b, 2, none⟩ rfl _⟩
theorem isEmpty_list {l : List UInt8} : ((⟨l.toArray⟩ : ByteArray).toList == ([] : List UInt8)) = l.isEmpty := by
  rw [empty_toList]
  cases l <;> simp [ByteArray.size]
theorem isEmpty_list2 {l : List UInt8} : (⟨l.toArray⟩ : ByteArray).toList.isEmpty = l.isEmpty := by
  rw [Lib.toList_data]
set_option maxRecDepth 100000 in
theorem named_any (s : ByteArray) (w : World) (hs : s.size ≤ 9223372036854775807) (hk : KeysLie w) :
    Calls Tryd.prog 48 #[.string s] w fun e w' => e = .returned (.bool (namedB s)) ∧ Below w.heap.size w w' := by
  have hn := gname_any s w
  have hky := fun W (h : Below w.heap.size w W) => key_any s W hs (hk.below h)
  unfold namedB
  cases hq : gnameB s with
  | false =>
    rw [hq] at hn
    clear hq hk
    go_enter Tryd.func48, Tryd.ntmps48
    go_wp2_with (go_at_call 67; refine hn.mono ?_; rintro e w1 ⟨rfl, hb1⟩)
    go_ret
    exact ⟨rfl, hb1⟩
  | true =>
    rw [hq] at hn
    obtain ⟨k, hkk⟩ : ∃ k, k = keyL s.data.toList := ⟨_, rfl⟩
    rw [← hkk] at hky ⊢
    clear hq hk hkk
    have e1 := @isEmpty_list k
    have e2 := @isEmpty_list2 k
    cases he : k.isEmpty
    all_goals
      rw [he] at e1 e2
      have HE := Aside0.mk he
      clear he
      go_enter Tryd.func48, Tryd.ntmps48
      go_wp2_with (first | (go_at_call 67; refine hn.mono ?_; rintro e w1 ⟨rfl, hb1⟩) | (go_at_call 68; refine (hky _ hb1).mono ?_; rintro e w2 ⟨rfl, hb2⟩))
      go_ret
      exact ⟨by first | rfl | (have := HE.out; simp at this ⊢; exact this), below_then hb1 hb2⟩
theorem own_row2 (w : World) (a s : ByteArray) : (w.alloc (.cells #[.string a, .string s] 9)).heap[w.heap.size]? = some (.cells ([a, s].map Value.string).toArray 9 (0, 0)) := heap_alloc_new w _
theorem own_row1 (w : World) (a : ByteArray) : (w.alloc (.cells #[.string a] 9)).heap[w.heap.size]? = some (.cells ([a].map Value.string).toArray 9 (0, 0)) := heap_alloc_new w _
theorem own_row3 (w : World) (a s u : ByteArray) : (w.alloc (.cells #[.string a, .string s, .string u] 9)).heap[w.heap.size]? = some (.cells ([a, s, u].map Value.string).toArray 9 (0, 0)) := heap_alloc_new w _
theorem own_row4 (w : World) (a s u v : ByteArray) : (w.alloc (.cells #[.string a, .string s, .string u, .string v] 9)).heap[w.heap.size]? = some (.cells ([a, s, u, v].map Value.string).toArray 9 (0, 0)) := heap_alloc_new w _
theorem kept_alloc {b : Nat} {w w' : World} (h : KeptB b w w') (o : Obj) : KeptB b w (w'.alloc o) := h.alloc o
/-- What a said text leaves, from the world behind its row's laying. -/
theorem say_1 (B b : Nat) (bs : List UInt8) (fl : Bool) (a : ByteArray) (w : World) (h : IsW B b bs fl w) (hBw : B ≤ w.heap.size) (hlen : bs.length ≤ 140737488355328) (ha : a.size ≤ 140737488351232) :
    Calls Tryd.prog 28 #[.pointer (some ⟨b, 0, none⟩), .slice (some ⟨w.heap.size, 0, none⟩) 1 1] (w.alloc (.cells #[.string a] 9)) fun e w' => e = .returned (.tuple #[]) ∧ (IsW B b (sayL bs [a]) fl w' ∧ Below B w w' ∧ KeptB b w w') :=
  (w_say B b w.heap.size 1 1 [a] bs fl _ (0, 0) (h.alloc _) (by simp; omega) rfl (own_row1 w a) hlen (fun t ht => by simp at ht; subst ht; exact ha) (by omega)).mono fun e w' hh => ⟨hh.1, hh.2.1, ((Below.refl B w).alloc hBw _).trans hh.2.2.1, (kept_alloc (Lib.OthersKept.refl _ _ w) _).trans hh.2.2.2⟩
theorem say_2 (B b : Nat) (bs : List UInt8) (fl : Bool) (a s : ByteArray) (w : World) (h : IsW B b bs fl w) (hBw : B ≤ w.heap.size) (hlen : bs.length ≤ 140737488355328) (ha : a.size ≤ 140737488351232) (hs : s.size ≤ 140737488351232) :
    Calls Tryd.prog 28 #[.pointer (some ⟨b, 0, none⟩), .slice (some ⟨w.heap.size, 0, none⟩) 2 2] (w.alloc (.cells #[.string a, .string s] 9)) fun e w' => e = .returned (.tuple #[]) ∧ (IsW B b (sayL bs [a, s]) fl w' ∧ Below B w w' ∧ KeptB b w w') :=
  (w_say B b w.heap.size 2 2 [a, s] bs fl _ (0, 0) (h.alloc _) (by simp; omega) rfl (own_row2 w a s) hlen (fun t ht => by simp at ht; rcases ht with rfl | rfl <;> assumption) (by omega)).mono fun e w' hh => ⟨hh.1, hh.2.1, ((Below.refl B w).alloc hBw _).trans hh.2.2.1, (kept_alloc (Lib.OthersKept.refl _ _ w) _).trans hh.2.2.2⟩
theorem say_3 (B b : Nat) (bs : List UInt8) (fl : Bool) (a s u : ByteArray) (w : World) (h : IsW B b bs fl w) (hBw : B ≤ w.heap.size) (hlen : bs.length ≤ 140737488355328) (ha : a.size ≤ 140737488351232) (hs : s.size ≤ 140737488351232) (hu : u.size ≤ 140737488351232) :
    Calls Tryd.prog 28 #[.pointer (some ⟨b, 0, none⟩), .slice (some ⟨w.heap.size, 0, none⟩) 3 3] (w.alloc (.cells #[.string a, .string s, .string u] 9)) fun e w' => e = .returned (.tuple #[]) ∧ (IsW B b (sayL bs [a, s, u]) fl w' ∧ Below B w w' ∧ KeptB b w w') :=
  (w_say B b w.heap.size 3 3 [a, s, u] bs fl _ (0, 0) (h.alloc _) (by simp; omega) rfl (own_row3 w a s u) hlen (fun t ht => by simp at ht; rcases ht with rfl | rfl | rfl <;> assumption) (by omega)).mono fun e w' hh => ⟨hh.1, hh.2.1, ((Below.refl B w).alloc hBw _).trans hh.2.2.1, (kept_alloc (Lib.OthersKept.refl _ _ w) _).trans hh.2.2.2⟩
/-- What name leaves. -/
def nameBs (bs : List UInt8) (a s : ByteArray) (may : Bool) : List UInt8 := if decide (s.size = 0) && may then bs else sayL bs [a, s]
def nameFl (fl : Bool) (s : ByteArray) (may : Bool) : Bool := if decide (s.size = 0) && may then fl else fl || !namedB s
set_option maxRecDepth 100000 in
set_option maxHeartbeats 1600000 in
theorem w_name (B b : Nat) (bs : List UInt8) (fl may : Bool) (a s : ByteArray) (w : World) (h : IsW B b bs fl w) (hBw : B ≤ w.heap.size) (hlen : bs.length ≤ 140737488355328) (ha : a.size ≤ 140737488351232) (hs : s.size ≤ 140737488351232) (hk : KeysLie w) :
    Calls Tryd.prog 25 #[.pointer (some ⟨b, 0, none⟩), .string a, .string s, .bool may] w fun e w' => e = .returned (.tuple #[]) ∧ (IsW B b (nameBs bs a s may) (nameFl fl s may) w' ∧ Below B w w' ∧ KeptB b w w') := by
  have hn := named_any s w (by omega) hk
  obtain ⟨nb, hnb⟩ : ∃ nb, nb = namedB s := ⟨_, rfl⟩
  have HI := Aside0.mk (And.intro h (And.intro hBw (And.intro hlen (And.intro ha hs))))
  unfold nameBs nameFl
  rw [← hnb] at hn ⊢
  clear hnb hk h hlen ha hs
  by_cases h0 : s.size = 0
  · have hs : s = ⟨#[]⟩ := by
      obtain ⟨a⟩ := s
      congr 1
      exact Array.eq_empty_of_size_eq_zero h0
    subst hs
    cases may with
    | true =>
      clear hn
      go_enter Tryd.func25, Tryd.ntmps25
      go_wp2
      first | go_end0 | refine bodyPost_ret (results_none rfl _ _ _) rfl ?_
      exact ⟨rfl, HI.out.1, Below.refl _ _, Lib.OthersKept.refl _ _ _⟩
    | false =>
      clear h0
      go_enter Tryd.func25, Tryd.ntmps25
      go_wp2_with (first | (go_at_call 48; refine hn.mono ?_; rintro e w1 ⟨rfl, hb1⟩) | (go_at_call 18; refine (w_want B b bs fl nb _ (HI.out.1.below hb1)).mono ?_; rintro e w2 ⟨rfl, h2, hb2, hk2⟩) | (go_at_call 28; refine (say_2 B b bs _ a ⟨#[]⟩ w2 h2 (by have h1 := hb1.size; have h2 := hb2.size; omega) HI.out.2.2.1 HI.out.2.2.2.1 HI.out.2.2.2.2).mono ?_; rintro e w3 ⟨rfl, h3, hb3, hk3⟩))
      go_end0
      exact ⟨rfl, h3, ((hb1.mono hBw).trans hb2).trans hb3, ((kept_below hb1).trans hk2).trans hk3⟩
  · have e1 : (s.toList == ([] : List UInt8)) = false := by rw [empty_toList]; exact decide_eq_false h0
    have e2 : s.toList.isEmpty = false := not_isEmpty_of h0
    have e3 : s.isEmpty = false := by rw [ByteArray.isEmpty]; simp [h0]
    have HZ := Aside0.mk (decide_eq_false h0)
    rw [HZ.out]
    clear h0
    go_enter Tryd.func25, Tryd.ntmps25
    go_wp2_with (first | (go_at_call 48; refine hn.mono ?_; rintro e w1 ⟨rfl, hb1⟩) | (go_at_call 18; refine (w_want B b bs fl nb _ (HI.out.1.below hb1)).mono ?_; rintro e w2 ⟨rfl, h2, hb2, hk2⟩) | (go_at_call 28; refine (say_2 B b bs _ a s w2 h2 (by have h1 := hb1.size; have h2 := hb2.size; omega) HI.out.2.2.1 HI.out.2.2.2.1 HI.out.2.2.2.2).mono ?_; rintro e w3 ⟨rfl, h3, hb3, hk3⟩))
    go_end0
    exact ⟨rfl, h3, ((hb1.mono hBw).trans hb2).trans hb3, ((kept_below hb1).trans hk2).trans hk3⟩
end Go.Proofs.YtkchpgjjkckfbaaDoor
