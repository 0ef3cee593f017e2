/- lex.Lex of any text, too long ones too. -/
import Derived.Test.YtokhbjagcnjiaaaDoorLxLex
set_option linter.unusedVariables false
set_option linter.unusedSimpArgs false
namespace Go.Proofs.YtokhbjagcnjiaaaDoor
open Go.RowKit

set_option maxRecDepth 100000 in
set_option maxHeartbeats 16000000 in
theorem lex_big (s : ByteArray) (w : World) (hb : 4096 < s.size) (hs : s.size ≤ 9223372036854775807) :
    Calls Tryd.prog 10 #[.string s] w fun e w' => e = .returned (.tuple #[.slice none 0 0, .int .i64 0, .int .i64 2]) ∧ Below w.heap.size w w' := by
  have hbi : (4096 : Int) < (s.size : Int) := by omega
  clear hb
  go_enter Tryd.func10, Tryd.ntmps10
  go_wp2
  refine wp_scope_label 0 (fun a' w' => False) (fun _ _ => 0) rfl ?pass ?first
  case first =>
    intro hrest
    go_wp2
    first
      | go_ret3
      | (simp only [Exit.jump]; go_ret3)
    exact ⟨rfl, below_more (Below.refl _ _) _⟩
  case pass =>
    intro a' w' h
    exact h.elim
/-- Lex of any text. -/
theorem lex_any (s : ByteArray) (w : World) (hs : s.size ≤ 9223372036854775807) (hk : KeysLie w) (hU : Lib.Utf8Tabs 1 2 w) :
    Calls Tryd.prog 10 #[.string s] w fun e w' => ∃ v, e = .returned (.tuple #[v, .int .i64 ((lexL s.data.toList).2.1 : Nat), .int .i64 (lexL s.data.toList).2.2]) ∧ w'.ownsRow (w.heap.size + 1) 29 4 v (lexL s.data.toList).1.length (toksCells (lexL s.data.toList).1) ∧ Below w.heap.size w w' := by
  by_cases hb : s.size ≤ 4096
  · exact lex_ok s w hb hk hU
  · have hls : s.data.toList.length = s.size := rfl
    have e : lexL s.data.toList = ([], 0, 2) := by rw [lexL, if_pos (by omega)]
    refine (lex_big s w (by omega) hs).mono ?_
    rintro e1 w1 ⟨rfl, hB⟩
    rw [e]
    exact ⟨_, rfl, World.ownsRow_nil _ _ _ _, hB⟩
end Go.Proofs.YtokhbjagcnjiaaaDoor
