/- Show, whole: value.Show and the document's write the same. -/
import Derived.Test.YthafbdkjpgeopaaDoorSho6
import Derived.Test.YthafbdkjpgeopaaDoorRSho6
import Derived.Test.YthafbdkjpgeopaaDoorRQuo
import Derived.Test.YthafbdkjpgeopaaDoorHead
import Derived.Lib.ItoaLen
set_option linter.unusedVariables false
set_option linter.unusedSimpArgs false
namespace Go.Proofs.YthafbdkjpgeopaaDoor
open Go.RowKit

/-- What is written of a thing. -/
def showL (k : Int) (b : Bool) (n : Int) (s : ByteArray) (p : List Int) : List UInt8 :=
  if rightB k b n s p then
    if k = 0 then [110, 117, 108, 108]
    else if k = 1 then (if b then [116, 114, 117, 101] else [102, 97, 108, 115, 101])
    else if k = 2 then Lib.itoa n
    else if k = 3 then quoR s.data.toList
    else if k = 4 then 35 :: Lib.itoa n
    else if k = 5 then 64 :: Lib.itoa n
    else pathL (fun j => Lib.itoa (p.getD j 0)) p.length
  else [102, 97, 117, 108, 116]
theorem right_valid {b : Bool} {n : Int} {s : ByteArray} {p : List Int} (h : rightB 3 b n s p = true) : Lib.validD s.data.toList = true := by
  simp [rightB, textB] at h
  exact h.2.2
theorem quo_same {s : ByteArray} (h : Lib.validD s.data.toList = true) : quoL s.data.toList = quoR s.data.toList := by
  rw [quoL, quoR, qrune_text _ _ (Nat.le_refl _) h]
theorem itoa_small {n : Int} (hn : -9223372036854775808 ≤ n ∧ n ≤ 9223372036854775807) : (Lib.itoa n).length ≤ 1000 := by
  have := Lib.itoa_length_le n hn.1 hn.2
  omega
theorem path_bound {p : List Int} (h7 : ∀ y ∈ p, 0 ≤ y ∧ y ≤ 1099511627776) (j : Nat) : 0 ≤ p.getD j 0 ∧ p.getD j 0 ≤ 1099511627776 := by
  rw [List.getD_eq_getElem?_getD]
  cases hj : p[j]? with
  | none => simp
  | some y => simpa using h7 y (List.mem_of_getElem? hj)

theorem show_any (k n : Int) (b : Bool) (s : ByteArray) (A : Option Addr) (p : List Int) (c : Nat) (w : World) (hr : ReadsI w A p) (hn : -9223372036854775808 ≤ n ∧ n ≤ 9223372036854775807) (ht : Tabs w) (hmc : p.length ≤ c) :
    Calls Tryd.prog 39 #[.agg #[.int .i64 k, .bool b, .int .i64 n, .string s, .slice A p.length c]] w fun e w' => e = .returned (.string ⟨(showL k b n s p).toArray⟩) ∧ Below w.heap.size w w' := by
  have hR : ∀ W, Below w.heap.size w W → Calls Tryd.prog 22 #[.agg #[.int .i64 k, .bool b, .int .i64 n, .string s, .slice A p.length c]] W fun e w' => e = .returned (.bool (rightB k b n s p)) ∧ Below W.heap.size W w' := fun W hW => right_any k n b s A p c W (hr.below hW)
  have hF := fun W (h : Below w.heap.size w W) => format_any n hn.1 hn.2 W (ht.below h)
  unfold showL
  by_cases h : rightB k b n s p = true
  · rw [if_pos h]
    have hk := right_k h
    rcases hk with rfl | rfl | rfl | ⟨rfl, h3⟩ | rfl | rfl | ⟨rfl, h6, h7⟩
    · rw [h] at hR
      exact sho_0 n b s A p c w hR
    · rw [h] at hR
      cases b
      · exact sho_1f n s A p c w hR
      · exact sho_1t n s A p c w hR
    · rw [h] at hR
      exact sho_2 n b s A p c w hR _ hF
    · rw [h] at hR
      have hq := quo_same (right_valid h)
      exact sho_3 n b s A p c w hR _ (fun W => by rw [← hq]; exact quo_any s W (by omega))
    · rw [h] at hR
      exact sho_4 n b s A p c w hR _ hF (itoa_small hn)
    · rw [h] at hR
      exact sho_5 n b s A p c w hR _ hF (itoa_small hn)
    · have h1 : 0 < p.length := by simp [rightB] at h; rcases p with _ | ⟨x, t⟩ <;> simp_all
      rw [h] at hR
      exact sho_6 n b s A p c w hR hr h1 h6 hmc (fun j => Lib.itoa (p.getD j 0)) (fun j => Lib.itoa_length_le _ (by have := path_bound h7 j; omega) (by have := path_bound h7 j; omega)) (fun j hj W hW => format_any _ (by have := path_bound h7 j; omega) (by have := path_bound h7 j; omega) W (ht.below hW))
  · rw [if_neg h]
    rw [Bool.not_eq_true] at h
    rw [h] at hR
    exact sho_no k n b s A p c w hR
theorem rshow_any (k n : Int) (b : Bool) (s : ByteArray) (A : Option Addr) (p : List Int) (c : Nat) (w : World) (hr : ReadsI w A p) (hn : -9223372036854775808 ≤ n ∧ n ≤ 9223372036854775807) (ht : Tabs w) (hss : s.size ≤ 9223372036854775807) (hT : Lib.Utf8Tabs 0 1 w) :
    Calls Tryd.prog 40 #[.agg #[.int .i64 k, .bool b, .int .i64 n, .string s, .slice A p.length c]] w fun e w' => e = .returned (.string ⟨(showL k b n s p).toArray⟩) ∧ Below w.heap.size w w' := by
  have hR : ∀ W, Below w.heap.size w W → Calls Tryd.prog 38 #[.agg #[.int .i64 k, .bool b, .int .i64 n, .string s, .slice A p.length c]] W fun e w' => e = .returned (.bool (rightB k b n s p)) ∧ Below W.heap.size W w' := fun W hW => rright_any k n b s A p c W (hr.below hW) hss (Utf8Tabs_below hT hW)
  have hF := fun W (h : Below w.heap.size w W) => format_any n hn.1 hn.2 W (ht.below h)
  unfold showL
  by_cases h : rightB k b n s p = true
  · rw [if_pos h]
    have hk := right_k h
    rcases hk with rfl | rfl | rfl | ⟨rfl, h3⟩ | rfl | rfl | ⟨rfl, h6, h7⟩
    · rw [h] at hR
      exact rsho_0 n b s A p c w hR
    · rw [h] at hR
      cases b
      · exact rsho_1f n s A p c w hR
      · exact rsho_1t n s A p c w hR
    · rw [h] at hR
      exact rsho_2 n b s A p c w hR _ hF
    · rw [h] at hR
      exact rsho_3 n b s A p c w hR _ (fun W => rquo_any s W (by omega))
    · rw [h] at hR
      exact rsho_4 n b s A p c w hR _ hF (itoa_small hn)
    · rw [h] at hR
      exact rsho_5 n b s A p c w hR _ hF (itoa_small hn)
    · have h1 : 0 < p.length := by simp [rightB] at h; rcases p with _ | ⟨x, t⟩ <;> simp_all
      rw [h] at hR
      exact rsho_6 n b s A p c w hR hr h1 h6 (fun j => Lib.itoa (p.getD j 0)) (fun j => Lib.itoa_length_le _ (by have := path_bound h7 j; omega) (by have := path_bound h7 j; omega)) (fun j hj W hW => format_any _ (by have := path_bound h7 j; omega) (by have := path_bound h7 j; omega) W (ht.below hW))
  · rw [if_neg h]
    rw [Bool.not_eq_true] at h
    rw [h] at hR
    exact rsho_no k n b s A p c w hR
end Go.Proofs.YthafbdkjpgeopaaDoor
