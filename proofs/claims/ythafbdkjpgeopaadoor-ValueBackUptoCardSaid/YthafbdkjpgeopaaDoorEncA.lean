/- Encode, whole: value.Encode and the document's answer the same bytes. -/
import Derived.Test.YthafbdkjpgeopaaDoorEncV
import Derived.Test.YthafbdkjpgeopaaDoorEncR
import Derived.BigGuardPart
set_option linter.unusedVariables false
set_option linter.unusedSimpArgs false
namespace Go.Proofs.YthafbdkjpgeopaaDoor
open Go.RowKit

theorem right_k {k n : Int} {b : Bool} {s : ByteArray} {p : List Int} (h : rightB k b n s p = true) :
    k = 0 ∨ k = 1 ∨ k = 2 ∨ (k = 3 ∧ s.size ≤ 4096) ∨ k = 4 ∨ k = 5 ∨ (k = 6 ∧ p.length ≤ 9 ∧ ∀ y ∈ p, 0 ≤ y ∧ y ≤ 1099511627776) := by
  unfold rightB at h
  by_cases k0 : k = 0
  · exact .inl k0
  by_cases k1 : k = 1
  · exact .inr (.inl k1)
  by_cases k2 : k = 2
  · exact .inr (.inr (.inl k2))
  by_cases k3 : k = 3
  · simp [k0, k1, k2, k3, textB] at h
    exact .inr (.inr (.inr (.inl ⟨k3, h.2.1⟩)))
  by_cases k4 : k = 4
  · exact .inr (.inr (.inr (.inr (.inl k4))))
  by_cases k5 : k = 5
  · exact .inr (.inr (.inr (.inr (.inr (.inl k5)))))
  by_cases k6 : k = 6
  · simp [k0, k1, k2, k3, k4, k5, k6, idB] at h
    exact .inr (.inr (.inr (.inr (.inr (.inr ⟨k6, h.1.2, fun y hy => h.2 y hy⟩)))))
  simp [k0, k1, k2, k3, k4, k5, k6] at h
theorem enc_any (k n : Int) (b : Bool) (s : ByteArray) (A : Option Addr) (p : List Int) (c : Nat) (w : World) (hr : ReadsI w A p) (hn : -9223372036854775808 ≤ n ∧ n ≤ 9223372036854775807) :
    Calls Tryd.prog 23 #[.agg #[.int .i64 k, .bool b, .int .i64 n, .string s, .slice A p.length c]] w fun e w' => ∃ v', e = .returned v' ∧ w'.ownsRow w.heap.size 5 1 v' (encL k b n s p).length (encL k b n s p) ∧ Below w.heap.size w w' := by
  have hR : ∀ W, Below w.heap.size w W → Calls Tryd.prog 22 #[.agg #[.int .i64 k, .bool b, .int .i64 n, .string s, .slice A p.length c]] W fun e w' => e = .returned (.bool (rightB k b n s p)) ∧ Below W.heap.size W w' := fun W hW => right_any k n b s A p c W (hr.below hW)
  unfold encL
  by_cases h : rightB k b n s p = true
  · rw [if_pos h]
    rw [h] at hR
    rcases right_k h with rfl | rfl | rfl | ⟨rfl, h3⟩ | rfl | rfl | ⟨rfl, h6, h7⟩
    · exact enc_0 n b s A p c w hR
    · cases b
      · exact enc_1f n s A p c w hR
      · exact enc_1t n s A p c w hR
    · exact enc_2 n b s A p c w hR hn
    · exact enc_3 n b s A p c w hR h3
    · exact enc_4 n b s A p c w hR hn
    · exact enc_5 n b s A p c w hR hn
    · exact enc_6 n b s A p c w hR hr h6 h7
  · rw [if_neg h]
    rw [Bool.not_eq_true] at h
    rw [h] at hR
    exact enc_no k n b s A p c w hR
theorem renc_any (k n : Int) (b : Bool) (s : ByteArray) (A : Option Addr) (p : List Int) (c : Nat) (w : World) (hr : ReadsI w A p) (hn : -9223372036854775808 ≤ n ∧ n ≤ 9223372036854775807) (hss : s.size ≤ 9223372036854775807) (hT : Lib.Utf8Tabs 0 1 w) :
    Calls Tryd.prog 41 #[.agg #[.int .i64 k, .bool b, .int .i64 n, .string s, .slice A p.length c]] w fun e w' => ∃ v', e = .returned v' ∧ w'.ownsRow w.heap.size 5 1 v' (encL k b n s p).length (encL k b n s p) ∧ Below w.heap.size w w' := by
  have hR : ∀ W, Below w.heap.size w W → Calls Tryd.prog 38 #[.agg #[.int .i64 k, .bool b, .int .i64 n, .string s, .slice A p.length c]] W fun e w' => e = .returned (.bool (rightB k b n s p)) ∧ Below W.heap.size W w' := fun W hW => rright_any k n b s A p c W (hr.below hW) hss (Utf8Tabs_below hT hW)
  unfold encL
  by_cases h : rightB k b n s p = true
  · rw [if_pos h]
    rw [h] at hR
    rcases right_k h with rfl | rfl | rfl | ⟨rfl, h3⟩ | rfl | rfl | ⟨rfl, h6, h7⟩
    · exact renc_0 n b s A p c w hR
    · cases b
      · exact renc_1f n s A p c w hR
      · exact renc_1t n s A p c w hR
    · exact renc_2 n b s A p c w hR hn
    · exact renc_3 n b s A p c w hR h3
    · exact renc_4 n b s A p c w hR hn
    · exact renc_5 n b s A p c w hR hn
    · exact renc_6 n b s A p c w hR hr h6 h7
  · rw [if_neg h]
    rw [Bool.not_eq_true] at h
    rw [h] at hR
    exact renc_no k n b s A p c w hR
end Go.Proofs.YthafbdkjpgeopaaDoor
