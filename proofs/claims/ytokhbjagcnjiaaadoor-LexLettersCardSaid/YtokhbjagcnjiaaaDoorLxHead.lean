/- The live question: portolanlaw07.head. -/
import Derived.Test.YtokhbjagcnjiaaaDoorLxLex
import Derived.Test.YtokhbjagcnjiaaaDoorLxRKey
set_option linter.unusedVariables false
set_option linter.unusedSimpArgs false
namespace Go.Proofs.YtokhbjagcnjiaaaDoor
open Go.RowKit

theorem lex_ask : lexL [97, 32, 60, 61, 32, 49, 50] = ([(1, [97], 0, 0), (5, [60, 61], 0, 2), (3, [], 12, 5)], 0, 0) := by decide +kernel
theorem key_ask : keyL [109, 97, 116, 99, 104] = [77, 65, 84, 67, 72] := by decide +kernel
set_option maxRecDepth 100000 in
set_option maxHeartbeats 1600000 in
theorem head_any (w : World) (hk : KeysLie w) (hU : Lib.Utf8Tabs 1 2 w) :
    Calls Tryd.prog 9 #[] w fun e w' => e = .returned (.bool true) ∧ Below w.heap.size w w' := by
  have hL := lex_ok ⟨#[97, 32, 60, 61, 32, 49, 50]⟩ w (by decide) hk hU
  rw [show (⟨#[97, 32, 60, 61, 32, 49, 50]⟩ : ByteArray).data.toList = [97, 32, 60, 61, 32, 49, 50] from rfl, lex_ask] at hL
  have hK : ∀ W, Below w.heap.size w W → Calls Tryd.prog 12 #[.string ⟨#[109, 97, 116, 99, 104]⟩] W fun e w' => e = .returned (.string ⟨#[77, 65, 84, 67, 72]⟩) ∧ Below W.heap.size W w' := fun W hW => by
    have h := key_any ⟨#[109, 97, 116, 99, 104]⟩ W (by decide) (hk.below hW)
    rw [show (⟨#[109, 97, 116, 99, 104]⟩ : ByteArray).data.toList = [109, 97, 116, 99, 104] from rfl, key_ask] at h
    exact h
  clear hk hU
  go_enter Tryd.func9, Tryd.ntmps9
  go_wp2_with (go_at_call 10; refine hL.mono ?_)
  first
    | (intro e W1 v he ho hb; subst he)
    | rintro e W1 ⟨v, rfl, ho, hb⟩
  have hform : ∃ g cap, v = .slice (some ⟨g, 0, none⟩) 3 cap := by
    rcases ho.2 with ⟨_, h0⟩ | ⟨g, cap, cur, h, _⟩
    · exact absurd h0 (by decide)
    · exact ⟨g, cap, h⟩
  obtain ⟨g, cap, rfl⟩ := hform
  have hcs := ho.cells (g := g) rfl
  have h5 : W1.cell? ⟨g, 5, none⟩ = some (.string ⟨#[60, 61]⟩) := hcs 5 _ rfl
  have h10 : W1.cell? ⟨g, 10, none⟩ = some (.int .i64 12) := hcs 10 _ rfl
  clear hcs ho
  have h5' : W1.cell? ((⟨g, 0, none⟩ : Addr).add 5) = some (.string ⟨#[60, 61]⟩) := h5
  go_wp2_with (go_at_call 12; refine (hK _ hb).mono ?_)
  first
    | (intro e W2 he hb2; subst he)
    | rintro e W2 ⟨rfl, hb2⟩
  go_wp2
  go_ret
  exact ⟨rfl, below_then hb hb2⟩
end Go.Proofs.YtokhbjagcnjiaaaDoor
