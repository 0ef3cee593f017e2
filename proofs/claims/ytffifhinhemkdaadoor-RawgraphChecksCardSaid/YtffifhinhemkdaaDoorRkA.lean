/- The document's Type, At: where a label, an ID stands. -/
import Derived.Test.YtffifhinhemkdaaDoorRgPl3
import Derived.Deep.QuietTactic
import Derived.BigQuiet
set_option linter.unusedVariables false
set_option linter.unusedSimpArgs false
namespace Go.Proofs.YtffifhinhemkdaaDoor
open Go.RowKit

theorem below_q {w : World} (q : Nat) : Below w.heap.size w (w.drewN q) := ⟨rfl, rfl, rfl, Nat.le_refl _, fun _ _ => rfl⟩
theorem take_step {α β : Type} (f : α → β) (d : α) (l : List α) (t : β) (m : Nat) (hm : m < l.length) : t ∈ (l.take (m + 1)).map f ↔ t ∈ (l.take m).map f ∨ f (l.getD m d) = t := by
  rw [take_getD l d m hm, List.map_append, List.mem_append, List.map_cons, List.map_nil, List.mem_singleton]
  exact ⟨fun h => h.imp id Eq.symm, fun h => h.imp id Eq.symm⟩
theorem take_mono {α β : Type} (f : α → β) (l : List α) (t : β) {m j : Nat} (hmj : m ≤ j) (h : t ∈ (l.take m).map f) : t ∈ (l.take j).map f := by
  obtain ⟨x, hx, e⟩ := List.mem_map.1 h
  have h2 : l.take m = (l.take j).take m := by rw [List.take_take, Nat.min_eq_left hmj]
  rw [h2] at hx
  exact List.mem_map.2 ⟨x, List.mem_of_mem_take hx, e⟩
def TypeAns (ts : List TD) (t : List UInt8) (r : Int) : Prop := (¬ t ∈ ts.map TD.key ∧ r = -1) ∨ (t ∈ ts.map TD.key ∧ ∃ i : Nat, i < ts.length ∧ r = (i : Int) ∧ ts.getD i TD.zero = typeOf ts t)
theorem type_found {ts : List TD} {t : List UInt8} {k : Nat} (hk : k < ts.length) (hn : ¬ t ∈ (ts.take k).map TD.key) (h : (ts.getD k TD.zero).key = t) : TypeAns ts t (k : Int) := by
  have hin : t ∈ ts.map TD.key := List.mem_map.2 ⟨_, getD_in ts TD.zero k hk, h⟩
  refine .inr ⟨hin, k, hk, rfl, ?_⟩
  obtain ⟨i, hi, e, hkey, hf⟩ := typeOf_at ts t hin
  rcases Nat.lt_trichotomy i k with h1 | h1 | h1
  · exact absurd (take_mono TD.key ts t (m := i + 1) h1 ((take_step TD.key TD.zero ts t i hi).2 (.inr (by rw [e]; exact hkey)))) hn
  · rw [← h1]
    exact e
  · exact absurd h (hf k h1)
def AtAns (l : List Int) (z r : Int) : Prop := (z ∈ l ∧ 0 ≤ r) ∨ (¬ z ∈ l ∧ r = -1)
set_option maxRecDepth 100000 in
set_option maxHeartbeats 3200000 in
theorem type_any (A : Option Addr) (ts : List TD) (c : Nat) (lb : ByteArray) (w : World) (hr : ReadsT w A ts) :
    Calls Tryd.prog 31 #[.slice A ts.length c, .string lb] w fun e w' => ∃ r, e = .returned (.int .i64 r) ∧ TypeAns ts lb.data.toList r ∧ Below w.heap.size w w' := by
  have HR := Aside0.mk hr
  obtain ⟨n, hn⟩ : ∃ n, n = ts.length := ⟨_, rfl⟩
  have hn9 : (n : Int) ≤ 9223372036854775807 := by have := hr.len; omega
  have HN := Aside0.mk hn
  rw [← hn]
  clear hn hr
  go_enter Tryd.func31, Tryd.ntmps31
  go_wp2
  go_loopg [5] (n + 1) (fun gg s5 wx => ∃ (j : Nat), j ≤ n ∧ n < gg + j ∧ s5 = .int .i64 j ∧ Aside0 (¬ lb.data.toList ∈ (ts.take j).map TD.key) ∧ Aside0 (Below w.heap.size w wx))
  case atStart => exact ⟨0, by omega, by omega, rfl, ⟨by simp⟩, ⟨Below.refl _ _⟩⟩
  case round =>
    obtain ⟨j, hj, hg, rfl, HF, HW⟩ := hrel
    have hj0 : (0 : Int) ≤ (j : Int) := by omega
    by_cases hjt : j < n
    · have hjti : (j : Int) < (n : Int) := by omega
      have hjl : j < ts.length := by have := HN.out; omega
      obtain ⟨pa, hpa, ha⟩ := (HR.out.below HW.out).row j hjl
      subst hpa
      obtain ⟨x, hx⟩ : ∃ x, x = ts.getD j TD.zero := ⟨_, rfl⟩
      have HX := Aside0.mk hx
      rw [← hx] at ha
      obtain ⟨xs, xA, xp, xc⟩ := x
      obtain ⟨_, _, a0, _⟩ := ha
      simp only at a0
      obtain ⟨e1, he1⟩ : ∃ e1, e1 = (xs.toList == lb.toList) := ⟨_, rfl⟩
      have HE : Aside0 (e1 = decide ((ts.getD j TD.zero).key = lb.data.toList)) := ⟨by rw [he1, key_eq, ← HX.out]; rfl⟩
      have he2 := he1.symm
      have HJ := Aside0.mk (And.intro hjt (And.intro hg hjl))
      obtain ⟨GJ, hGJ⟩ : ∃ GJ, GJ = gk := ⟨_, rfl⟩
      have HGJ := Aside0.mk hGJ
      rw [← hGJ] at HJ
      clear hGJ hx hj hg hjl he1
      cases e1 with
      | true =>
        go_wp2
        go_ret
        exact ⟨_, rfl, type_found HJ.out.2.2 HF.out (of_decide_eq_true HE.out.symm), HW.out⟩
      | false =>
        have HF2 : Aside0 (¬ lb.data.toList ∈ (ts.take (j + 1)).map TD.key) := ⟨fun h => by
          rcases (take_step TD.key TD.zero ts _ j HJ.out.2.2).1 h with h | h
          · exact HF.out h
          · exact of_decide_eq_false HE.out.symm h⟩
        go_wp2
        go_roundg (GJ - 1)
        case measure => have := HJ.out; have := HGJ.out; omega
        case rel => exact ⟨j + 1, by have := HJ.out; omega, by have := HJ.out; omega, by first | rfl | go_num, HF2, HW⟩
    · have hjn : j = n := by omega
      subst j
      have HA : Aside0 (TypeAns ts lb.data.toList (-1)) := ⟨.inl ⟨by have h := HF.out; rw [HN.out, List.take_length] at h; exact h, rfl⟩⟩
      go_wp2
      go_ret
      exact ⟨_, rfl, HA.out, HW.out⟩
set_option maxRecDepth 100000 in
set_option maxHeartbeats 3200000 in
theorem at_any (A : Option Addr) (ns : List ND) (c : Nat) (z : Int) (w : World) (hr : ReadsN w A ns) :
    Calls Tryd.prog 38 #[.slice A ns.length c, .int .i64 z] w fun e w' => ∃ r, e = .returned (.int .i64 r) ∧ AtAns (ns.map ND.id) z r ∧ Below w.heap.size w w' := by
  have HR := Aside0.mk hr
  obtain ⟨n, hn⟩ : ∃ n, n = ns.length := ⟨_, rfl⟩
  have hn9 : (n : Int) ≤ 9223372036854775807 := by have := hr.len; omega
  have HN := Aside0.mk hn
  rw [← hn]
  clear hn hr
  go_enter Tryd.func38, Tryd.ntmps38
  go_wp2
  go_loopg [5] (n + 1) (fun gg s5 wx => ∃ (j : Nat), j ≤ n ∧ n < gg + j ∧ s5 = .int .i64 j ∧ Aside0 (¬ z ∈ (ns.take j).map ND.id) ∧ Aside0 (Below w.heap.size w wx))
  case atStart => exact ⟨0, by omega, by omega, rfl, ⟨by simp⟩, ⟨Below.refl _ _⟩⟩
  case round =>
    obtain ⟨j, hj, hg, rfl, HF, HW⟩ := hrel
    have hj0 : (0 : Int) ≤ (j : Int) := by omega
    by_cases hjt : j < n
    · have hjti : (j : Int) < (n : Int) := by omega
      have hjl : j < ns.length := by have := HN.out; omega
      obtain ⟨pa, hpa, ha⟩ := (HR.out.below HW.out).row j hjl
      subst hpa
      obtain ⟨x, hx⟩ : ∃ x, x = ns.getD j ND.zero := ⟨_, rfl⟩
      have HX := Aside0.mk hx
      rw [← hx] at ha
      obtain ⟨xid, xlb, xA, xqs, xc⟩ := x
      obtain ⟨_, _, a0, _, _⟩ := ha
      simp only at a0
      have HID : Aside0 ((ns.getD j ND.zero).id = xid) := ⟨by rw [← HX.out]⟩
      have HJ := Aside0.mk (And.intro hjt (And.intro hg hjl))
      obtain ⟨GJ, hGJ⟩ : ∃ GJ, GJ = gk := ⟨_, rfl⟩
      have HGJ := Aside0.mk hGJ
      rw [← hGJ] at HJ
      clear hGJ hx hj hg hjl
      by_cases he : xid = z
      · subst he
        have HA : Aside0 (AtAns (ns.map ND.id) xid (j : Int)) := ⟨.inl ⟨List.mem_map.2 ⟨_, getD_in ns ND.zero j HJ.out.2.2, HID.out⟩, hj0⟩⟩
        go_wp2
        go_ret
        exact ⟨_, rfl, HA.out, HW.out⟩
      · have heb : (xid == z) = false := by simp [he]
        have HF2 : Aside0 (¬ z ∈ (ns.take (j + 1)).map ND.id) := ⟨fun h => by
          rcases (take_step ND.id ND.zero ns _ j HJ.out.2.2).1 h with h | h
          · exact HF.out h
          · exact he (by rw [← HID.out]; exact h)⟩
        go_wp2
        go_roundg (GJ - 1)
        case measure => have := HJ.out; have := HGJ.out; omega
        case rel => exact ⟨j + 1, by have := HJ.out; omega, by have := HJ.out; omega, by first | rfl | go_num, HF2, HW⟩
    · have hjn : j = n := by omega
      subst j
      have HA : Aside0 (AtAns (ns.map ND.id) z (-1)) := ⟨.inr ⟨by have h := HF.out; rw [HN.out, List.take_length] at h; exact h, rfl⟩⟩
      go_wp2
      go_ret
      exact ⟨_, rfl, HA.out, HW.out⟩
end Go.Proofs.YtffifhinhemkdaaDoor
