/- The walk of the law LexTexts. -/
import Derived.Test.YtokhbjagcnjiaaaDoorLxTxtP
import Derived.Test.YtokhbjagcnjiaaaDoorLxShow
import Derived.Test.YtokhbjagcnjiaaaDoorLLxMov0
set_option linter.unusedVariables false
set_option linter.unusedSimpArgs false
namespace Go.Proofs.YtokhbjagcnjiaaaDoor
open Go.RowKit

set_option maxRecDepth 100000 in
set_option maxHeartbeats 3200000 in
theorem texts_walk (s : ByteArray) (w : World) (hs : s.size ≤ 1048576) (hk : KeysLie w) (hU : Lib.Utf8Tabs 1 2 w) :
    Calls Tryd.prog 7 #[.string s] w fun e w' => e = .returned (.bool true) ∧ Below w.heap.size w w' := by
  have hH := head_any w hk hU
  have hR : ∀ W, Below w.heap.size w W → _ := fun W hW => rright_3_ok s none 0 W (by omega) (utabs_keep hU hW)
  have hQ : ∀ W, _ := fun W => rquo_any s W hs
  obtain ⟨q, hq⟩ : ∃ q : ByteArray, q = ⟨(quoR s.data.toList).toArray⟩ := ⟨_, rfl⟩
  have hql : q.data.toList = quoR s.data.toList := by rw [hq]
  have hqs : q.size = (quoR s.data.toList).length := by rw [← hql]; rfl
  have hq2 : (quoR s.data.toList).length ≤ 9223372036854775807 := by
    have := qtext_length s.data.toList
    have hls : s.data.toList.length = s.size := rfl
    simp [quoR]
    omega
  have hL : ∀ W, Below w.heap.size w W → _ := fun W hW => lex_any q W (by omega) (hk.below hW) (utabs_keep hU hW)
  rw [hql] at hL
  rw [← hq] at hQ
  have hqi : (q.size : Int) ≤ 9223372036854775807 := by omega
  have HLL := Aside0.mk hL
  have HQS := Aside0.mk hqs
  clear hk hU hq hql hqs hL hq2
  by_cases hb : textB s = true
  · rw [hb] at hR
    by_cases h4 : q.size ≤ 4096
    · have h4i : (q.size : Int) ≤ 4096 := by omega
      have hp := texts_plain s.data.toList (by simp [textB] at hb; exact hb.2) (by have := HQS.out; omega)
      have hLx := HLL.out
      rw [hp] at hLx
      clear HLL hp HQS hb h4
      go_enter Tryd.func7, Tryd.ntmps7
      go_wp2_with (go_at_call 9; refine hH.mono ?_)
      first
        | (intro e W1 he hb1; subst he)
        | rintro e W1 ⟨rfl, hb1⟩
      go_wp2_with (go_at_call 16; refine (hR _ (below_more hb1 _)).mono ?_)
      first
        | (intro e W2 he hb2; subst he)
        | rintro e W2 ⟨rfl, hb2⟩
      have HB2 : Below w.heap.size w W2 := by first | exact below_then (below_more hb1 _) hb2 | exact below_then hb1 (below_one hb2)
      clear hb1 hb2
      go_wp2_with (go_at_call 17; refine (hQ _).mono ?_)
      first
        | (intro e W3 he hb3; subst he)
        | rintro e W3 ⟨rfl, hb3⟩
      have HB3 := below_then HB2 hb3
      clear hb3 HB2
      go_wp2_with (go_at_call 10; refine (hLx _ HB3).mono ?_)
      first
        | (intro e W4 v he ho hb4; subst he)
        | rintro e W4 ⟨v, rfl, ho, hb4⟩
      have hform : ∃ g cap, v = .slice (some ⟨g, 0, none⟩) 1 cap := by
        rcases ho.2 with ⟨_, h0⟩ | ⟨g, cap, cur, h, _⟩
        · exact absurd h0 (by simp)
        · exact ⟨g, cap, h⟩
      obtain ⟨g, cap, rfl⟩ := hform
      have hcs := ho.cells (g := g) rfl
      have c0 : W4.cell? ⟨g, 0, none⟩ = some (.int .i64 4) := hcs 0 _ rfl
      have c1 : W4.cell? ⟨g, 1, none⟩ = some (.string ⟨s.data.toList.toArray⟩) := hcs 1 _ rfl
      have c3 : W4.cell? ⟨g, 3, none⟩ = some (.int .i64 0) := hcs 3 _ rfl
      have hss : (⟨s.data.toList.toArray⟩ : ByteArray) = s := rfl
      rw [hss] at c1
      have hTT : (s.toList == s.toList) = true := by simp
      have HB4 := below_then HB3 hb4
      clear hcs ho hb4 HB3
      go_wp2
      go_ret
      exact ⟨rfl, HB4⟩
    · have h4i : (4096 : Int) < (q.size : Int) := by omega
      clear HLL HQS hb h4
      go_enter Tryd.func7, Tryd.ntmps7
      go_wp2_with (go_at_call 9; refine hH.mono ?_)
      first
        | (intro e W1 he hb1; subst he)
        | rintro e W1 ⟨rfl, hb1⟩
      go_wp2_with (go_at_call 16; refine (hR _ (below_more hb1 _)).mono ?_)
      first
        | (intro e W2 he hb2; subst he)
        | rintro e W2 ⟨rfl, hb2⟩
      have HB2 : Below w.heap.size w W2 := by first | exact below_then (below_more hb1 _) hb2 | exact below_then hb1 (below_one hb2)
      clear hb1 hb2
      go_wp2_with (go_at_call 17; refine (hQ _).mono ?_)
      first
        | (intro e W3 he hb3; subst he)
        | rintro e W3 ⟨rfl, hb3⟩
      have HB3 := below_then HB2 hb3
      clear hb3 HB2
      go_wp2
      go_ret
      exact ⟨rfl, HB3⟩
  · have hbf : textB s = false := by simpa using hb
    rw [hbf] at hR
    clear HLL HQS hb
    go_enter Tryd.func7, Tryd.ntmps7
    go_wp2_with (go_at_call 9; refine hH.mono ?_)
    first
      | (intro e W1 he hb1; subst he)
      | rintro e W1 ⟨rfl, hb1⟩
    go_wp2_with (go_at_call 16; refine (hR _ (below_more hb1 _)).mono ?_)
    first
      | (intro e W2 he hb2; subst he)
      | rintro e W2 ⟨rfl, hb2⟩
    have HB2 : Below w.heap.size w W2 := by first | exact below_then (below_more hb1 _) hb2 | exact below_then hb1 (below_one hb2)
    clear hb1 hb2
    go_wp2_with (go_at_call 17; refine (hQ _).mono ?_)
    first
      | (intro e W3 he hb3; subst he)
      | rintro e W3 ⟨rfl, hb3⟩
    have HB3 := below_then HB2 hb3
    clear hb3 HB2
    go_wp2
    go_ret
    exact ⟨rfl, HB3⟩
end Go.Proofs.YtokhbjagcnjiaaaDoor
