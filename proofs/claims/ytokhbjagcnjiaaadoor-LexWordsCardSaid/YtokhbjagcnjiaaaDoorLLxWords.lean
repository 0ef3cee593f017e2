/- The walk of the law LexWords. -/
import Derived.Test.YtokhbjagcnjiaaaDoorLxRa
import Derived.Test.YtokhbjagcnjiaaaDoorLxR6
set_option linter.unusedVariables false
set_option linter.unusedSimpArgs false
namespace Go.Proofs.YtokhbjagcnjiaaaDoor
open Go.RowKit

set_option maxRecDepth 100000 in
set_option maxHeartbeats 1600000 in
theorem words_walk (s : ByteArray) (w : World) (hs : s.size ≤ 9223372036854775807) (hk : KeysLie w) (hU : Lib.Utf8Tabs 1 2 w) :
    Calls Tryd.prog 6 #[.string s] w fun e w' => e = .returned (.bool true) ∧ Below w.heap.size w w' := by
  have hH := head_any w hk hU
  have hL1 : ∀ W, Below w.heap.size w W → _ := fun W hW => lex_any s W hs (hk.below hW) (utabs_keep hU hW)
  have hL2 : ∀ W, Below w.heap.size w W → _ := fun W hW => rlex_any s W hs (utabs_keep hU hW)
  have h1 : ∀ W, Below w.heap.size w W → Calls Tryd.prog 12 #[.string s] W fun e w' => e = .returned (.string ⟨(keyL s.data.toList).toArray⟩) ∧ Below W.heap.size W w' := fun W hW => key_any s W hs (hk.below hW)
  have h2 : ∀ W, Calls Tryd.prog 13 #[.string s] W fun e w' => e = .returned (.string ⟨(keyL s.data.toList).toArray⟩) ∧ Below W.heap.size W w' := fun W => rkey_any s W hs
  generalize (⟨(keyL s.data.toList).toArray⟩ : ByteArray) = T at h1 h2
  have hTT : (T.toList == T.toList) = true := by simp
  generalize lexL s.data.toList = R at hL1 hL2
  obtain ⟨ts, n, c⟩ := R
  simp only at hL1 hL2
  clear hk hU
  go_enter Tryd.func6, Tryd.ntmps6
  go_wp2_with (go_at_call 9; refine hH.mono ?_)
  first
    | (intro e W1 he hb1; subst he)
    | rintro e W1 ⟨rfl, hb1⟩
  go_wp2_with (go_at_call 10; refine (hL1 _ hb1).mono ?_)
  first
    | (intro e W2 v2 he ho2 hb2; subst he)
    | rintro e W2 ⟨v2, rfl, ho2, hb2⟩
  have HB2 := below_then hb1 hb2
  obtain ⟨A, cA, rfl, h63, hcA⟩ := toks_held ho2
  clear hb1 hb2 ho2
  go_wp2_with (go_at_call 14; refine (hL2 _ HB2).mono ?_)
  first
    | (intro e W3 v3 he ho3 hb3; subst he)
    | rintro e W3 ⟨v3, rfl, ho3, hb3⟩
  have HB3 := below_then HB2 hb3
  obtain ⟨B, cB, rfl, _, hcB⟩ := toks_held ho3
  have hrow : ∀ j, j < ts.length → ∃ ad bd, A = some ad ∧ B = some bd ∧ Holds4 W3 (ad.add (j * 4)) (ts.getD j tok0) ∧ Holds4 W3 (bd.add (j * 4)) (ts.getD j tok0) := fun j hj => by
    obtain ⟨ad, e1, k1⟩ := hcA j hj
    obtain ⟨bd, e2, k2⟩ := hcB j hj
    exact ⟨ad, bd, e1, e2, k1.kept hb3, k2⟩
  have hS := rsame_any A B cA cB ts.length ts W3 h63 hrow
  clear hb3 ho3 hcA hcB hrow HB2
  go_wp2_with (go_at_call 15; refine hS.mono ?_)
  first
    | (intro e W4 he hb4; subst he)
    | rintro e W4 ⟨rfl, hb4⟩
  have HB4 := below_then HB3 hb4
  clear hb4 hS HB3
  go_wp2_with (go_at_call 12; refine (h1 _ HB4).mono ?_)
  first
    | (intro e W5 he hb5; subst he)
    | rintro e W5 ⟨rfl, hb5⟩
  have HB5 := below_then HB4 hb5
  clear hb5 HB4
  go_wp2_with (go_at_call 13; refine (h2 _).mono ?_)
  first
    | (intro e W6 he hb6; subst he)
    | rintro e W6 ⟨rfl, hb6⟩
  have HB6 := below_then HB5 hb6
  clear hb6
  go_wp2
  go_ret
  exact ⟨rfl, HB6⟩
end Go.Proofs.YtokhbjagcnjiaaaDoor
