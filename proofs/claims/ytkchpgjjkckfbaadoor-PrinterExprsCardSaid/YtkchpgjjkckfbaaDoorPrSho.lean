/- How a value is written in a query: value.Show and the document's Show, of what may stand there. -/
import Derived.Test.YtkchpgjjkckfbaaDoorPrSh2
import Derived.Test.YtkchpgjjkckfbaaDoorQuo
import Derived.Test.YtkchpgjjkckfbaaDoorLxQuoR
import Derived.Test.YtkchpgjjkckfbaaDoorRRight
import Derived.Test.YtkchpgjjkckfbaaDoorShelf
import Derived.Lib.AppendIntMem
import Derived.Lib.LaidTab
set_option linter.unusedVariables false
set_option linter.unusedSimpArgs false
namespace Go.Proofs.YtkchpgjjkckfbaaDoor
open Go.RowKit

/-- The table that numbers are written by lies as it was laid. -/
def Tabs (w : World) : Prop := Lib.TabIs Tryd.prog w "internal/strconv.uint64pow10" .u64 Lib.pow10Tab
theorem pow10_named : Tryd.prog.globalNamed "internal/strconv.uint64pow10" = some 3 := by kernel_rfl
theorem Tabs.below {w w1 : World} (h : Tabs w) (hb : Below w.heap.size w w1) : Tabs w1 := (Lib.tabBelow_of_tabIs h) w1 hb
theorem format_any (n : Int) (h0 : -9223372036854775808 ≤ n) (h1 : n ≤ 9223372036854775807) (w : World) (ht : Tabs w) :
    Calls Tryd.prog 93 #[.int .i64 n, .int .i64 10] w fun e w' => e = .returned (.string ⟨(Lib.itoa n).toArray⟩) ∧ Below w.heap.size w w' :=
  (Tryd.strconv_FormatInt_10 n h0 h1 w ht).mono fun e w' ⟨he, k, os, hw⟩ => ⟨he, by rw [hw]; exact Lib.below_grow _ w (Nat.le_refl _) k os⟩
theorem quo_same {s : ByteArray} (h : Lib.validD s.data.toList = true) : quoL s.data.toList = quoR s.data.toList := by
  rw [quoL, quoR, qrune_text _ _ (Nat.le_refl _) h]
/-- What Show writes of null, a truth, a number, a text. -/
def showQ (k : Int) (b : Bool) (n : Int) (s : ByteArray) : List UInt8 :=
  if k = 0 then [110, 117, 108, 108] else if k = 1 then (if b then [116, 114, 117, 101] else [102, 97, 108, 115, 101]) else if k = 2 then Lib.itoa n else quoR s.data.toList
theorem right_text {k n : Int} {b : Bool} {s : ByteArray} {p : List Int} (h : rightB k b n s p = true) (h3 : k = 3) : s.size ≤ 4096 ∧ Lib.validD s.data.toList = true := by
  subst h3
  simp [rightB, textB] at h
  exact h.2
theorem right_small {k n : Int} {b : Bool} {s : ByteArray} {p : List Int} (h : rightB k b n s p = true) (h3 : k ≤ 3) : k = 0 ∨ k = 1 ∨ k = 2 ∨ k = 3 := by
  by_cases h0 : 0 ≤ k
  · omega
  · exfalso
    have : rightB k b n s p = false := by
      simp [rightB, show ¬ k = 0 by omega, show ¬ k = 1 by omega, show ¬ k = 2 by omega, show ¬ k = 3 by omega, show ¬ k = 4 by omega, show ¬ k = 5 by omega, show ¬ k = 6 by omega]
    rw [this] at h
    cases h
theorem show_q (k n : Int) (b : Bool) (s : ByteArray) (A : Option Addr) (p : List Int) (c : Nat) (w : World) (hr : ReadsI w A p) (hn : -9223372036854775808 ≤ n ∧ n ≤ 9223372036854775807) (ht : Tabs w) (h : rightB k b n s p = true) (h3 : k ≤ 3) :
    Calls Tryd.prog 62 #[.agg #[.int .i64 k, .bool b, .int .i64 n, .string s, .slice A p.length c]] w fun e w' => e = .returned (.string ⟨(showQ k b n s).toArray⟩) ∧ Below w.heap.size w w' := by
  have hR : ∀ W, Below w.heap.size w W → Calls Tryd.prog 61 #[.agg #[.int .i64 k, .bool b, .int .i64 n, .string s, .slice A p.length c]] W fun e w' => e = .returned (.bool (rightB k b n s p)) ∧ Below W.heap.size W w' := fun W hW => right_any k n b s A p c W (hr.below hW)
  rw [h] at hR
  rcases right_small h h3 with rfl | rfl | rfl | rfl
  · exact sho_0 n b s A p c w hR
  · cases b
    · exact sho_1f n s A p c w hR
    · exact sho_1t n s A p c w hR
  · exact sho_2 n b s A p c w hR _ (fun W (h : Below w.heap.size w W) => format_any n hn.1 hn.2 W (ht.below h))
  · have h2 := right_text h rfl
    exact sho_3 n b s A p c w hR _ (fun W => by show Calls _ _ _ _ fun e w' => e = .returned (.string ⟨(quoR s.data.toList).toArray⟩) ∧ _; rw [← quo_same h2.2]; exact quo_any s W (by omega))
theorem rshow_q (k n : Int) (b : Bool) (s : ByteArray) (A : Option Addr) (p : List Int) (c : Nat) (w : World) (hr : ReadsI w A p) (hn : -9223372036854775808 ≤ n ∧ n ≤ 9223372036854775807) (ht : Tabs w) (hss : s.size ≤ 9223372036854775807)
    (hT : Lib.Utf8Tabs 1 2 w) (h : rightB k b n s p = true) (h3 : k ≤ 3) :
    Calls Tryd.prog 65 #[.agg #[.int .i64 k, .bool b, .int .i64 n, .string s, .slice A p.length c]] w fun e w' => e = .returned (.string ⟨(showQ k b n s).toArray⟩) ∧ Below w.heap.size w w' := by
  have hR : ∀ W, Below w.heap.size w W → Calls Tryd.prog 64 #[.agg #[.int .i64 k, .bool b, .int .i64 n, .string s, .slice A p.length c]] W fun e w' => e = .returned (.bool (rightB k b n s p)) ∧ Below W.heap.size W w' := fun W hW => rright_any k n b s A p c W (hr.below hW) hss (Utf8Tabs_below hT hW)
  rw [h] at hR
  rcases right_small h h3 with rfl | rfl | rfl | rfl
  · exact rsho_0 n b s A p c w hR
  · cases b
    · exact rsho_1f n s A p c w hR
    · exact rsho_1t n s A p c w hR
  · exact rsho_2 n b s A p c w hR _ (fun W (h : Below w.heap.size w W) => format_any n hn.1 hn.2 W (ht.below h))
  · have h2 := right_text h rfl
    exact rsho_3 n b s A p c w hR _ (fun W => rquo_any s W (by omega))
end Go.Proofs.YtkchpgjjkckfbaaDoor
