/- The head of the laws on graphs as they are handed in: the walk of RawgraphNames. -/
import Derived.Test.YtffifhinhemkdaaDoorRgHdA
import Derived.Test.YtffifhinhemkdaaDoorRgRN
set_option linter.unusedVariables false
set_option linter.unusedSimpArgs false
namespace Go.Proofs.YtffifhinhemkdaaDoor
open Go.RowKit Go.Maps

set_option maxRecDepth 100000 in
theorem names_walk (s : ByteArray) (w : World) (hT : Lib.Utf8Tabs 0 1 w) :
    Calls Tryd.prog 3 #[.string s] w fun e w' => e = .returned (.bool true) ∧ Below w.heap.size w w' := by
  have hh := head_any w
  have HT := Aside0.mk hT
  obtain ⟨N, hN⟩ : ∃ N, N = nameB s := ⟨_, rfl⟩
  have HNM : Aside0 (∀ W, Calls Tryd.prog 6 #[.string s] W fun e w' => e = .returned (.bool N) ∧ Below W.heap.size W w') := ⟨fun W => by rw [hN]; exact name_any s W⟩
  have HRN : Aside0 (∀ W, Below w.heap.size w W → Calls Tryd.prog 7 #[.string s] W fun e w' => e = .returned (.bool N) ∧ Below W.heap.size W w') := ⟨fun W h => by rw [hN]; exact rname_any s W (Utf8Tabs_below hT h)⟩
  have hNN : (N == N) = true := by cases N <;> rfl
  clear hT hN
  go_enter Tryd.func3, Tryd.ntmps3
  go_wp2_with (go_at_call 5; go_loud (refine hh.mono ?_))
  first
    | (intro e W1 he hb1; subst he)
    | rintro e W1 ⟨rfl, hb1⟩
  have hn := HNM.out W1
  clear hh
  go_wp2_with (go_at_call 6; go_loud (refine hn.mono ?_))
  rintro e W2 ⟨rfl, hb2⟩
  have hb12 := below_then hb1 hb2
  have hr := HRN.out W2 hb12
  clear hn hb2 hb1
  go_wp2_with (go_at_call 7; go_loud (refine hr.mono ?_))
  rintro e W3 ⟨rfl, hb3⟩
  have hb13 := below_then hb12 hb3
  clear hr
  go_wp2
  go_ret
  exact ⟨rfl, hb13⟩
end Go.Proofs.YtffifhinhemkdaaDoor
