/- The walk of the law LexNumbers. -/
import Derived.Test.YtokhbjagcnjiaaaDoorLxNumP
import Derived.Test.YtokhbjagcnjiaaaDoorLxShow
import Derived.Test.YtokhbjagcnjiaaaDoorLLxMov0
set_option linter.unusedVariables false
set_option linter.unusedSimpArgs false
namespace Go.Proofs.YtokhbjagcnjiaaaDoor
open Go.RowKit

theorem i64_range {z : Int} (h : (Lit.int .i64 z).wf = true) : -9223372036854775808 ≤ z ∧ z ≤ 9223372036854775807 := by
  simp [Lit.wf, IntKind.min, IntKind.max, IntKind.bits, IntKind.signed] at h
  omega
theorem u8_range {z : Int} (h : (Lit.int .u8 z).wf = true) : 0 ≤ z ∧ z ≤ 255 := by
  simp [Lit.wf, IntKind.min, IntKind.max, IntKind.bits, IntKind.signed] at h
  omega
theorem cat_list (a b : ByteArray) : (a ++ b).data.toList = a.data.toList ++ b.data.toList := by simp
theorem cat_size (a b : ByteArray) : (a ++ b).size = a.size + b.size := by simp
set_option maxRecDepth 100000 in
set_option maxHeartbeats 3200000 in
theorem numbers_walk (n : Int) (z : Int) (w : World) (hn0 : -9223372036854775808 ≤ n) (hn1 : n ≤ 9223372036854775807) (hz0 : 0 ≤ z) (hz1 : z ≤ 255) (ht : Tabs w) (hk : KeysLie w) (hU : Lib.Utf8Tabs 1 2 w) :
    Calls Tryd.prog 8 #[.int .i64 n, .int .u8 z] w fun e w' => e = .returned (.bool true) ∧ Below w.heap.size w w' := by
  have hH := head_any w hk hU
  by_cases hneg : n < 0
  · clear ht hk hU
    go_enter Tryd.func8, Tryd.ntmps8
    go_wp2_with (go_at_call 9; refine hH.mono ?_)
    first
      | (intro e W1 he hb1; subst he)
      | rintro e W1 ⟨rfl, hb1⟩
    go_wp2
    go_ret
    exact ⟨rfl, hb1⟩
  · have hn2 : 0 ≤ n := by omega
    have hS : ∀ W, Below w.heap.size w W → Calls Tryd.prog 18 #[.agg #[.int .i64 2, .bool false, .int .i64 n, .string ⟨#[]⟩, .slice none 0 0]] W fun e w' => e = .returned (.string ⟨(Lib.itoa n).toArray⟩) ∧ Below W.heap.size W w' := fun W hW =>
      rsho_2 n false ⟨#[]⟩ none [] 0 W (fun W2 _ => rright_2_ok n ⟨#[]⟩ none 0 W2 (by rw [Lib.toList_data]; rfl)) _ (fun W2 hW2 => format_any n hn0 hn1 W2 (ht.below (below_then hW hW2)))
    have hlen := Lib.itoa_length_le n hn0 hn1
    have hpl := numbers_plain n hn2 hn1
    have hL : ∀ s : ByteArray, s.size ≤ 100 → ∀ W, Below w.heap.size w W → _ := fun s hs W hW => lex_any s W (by omega) (hk.below hW) (utabs_keep hU hW)
    have hm : ∃ m : Nat, (m : Int) = z % 9 ∧ m ≤ 8 := ⟨(z % 9).toNat, by omega, by omega⟩
    obtain ⟨m, hm, hm8⟩ := hm
    have HPL := Aside0.mk hpl
    have HL := Aside0.mk hL
    have HM := Aside0.mk hm
    generalize Lib.itoa n = T at hS hlen HPL
    clear ht hk hU hpl hL hm
    go_enter Tryd.func8, Tryd.ntmps8
    go_wp2_with (go_at_call 9; refine hH.mono ?_)
    first
      | (intro e W1 he hb1; subst he)
      | rintro e W1 ⟨rfl, hb1⟩
    go_wp2_with (go_at_call 18; refine (hS _ hb1).mono ?_)
    first
      | (intro e W2 he hb2; subst he)
      | rintro e W2 ⟨rfl, hb2⟩
    have HB2 := below_then hb1 hb2
    clear hb1 hb2 hS hH
    go_wp2
    go_loopg [6, 7] 10 (fun gg s6 s7 wr => ∃ (i : Nat) (X : ByteArray), s7 = .int .i64 i ∧ s6 = .string X ∧ i ≤ m ∧ m < gg + i ∧ X.size ≤ 21 + i ∧ Aside0 (X.data.toList = List.replicate i 48 ++ T) ∧ wr = W2)
    case atStart => exact ⟨0, _, rfl, rfl, by omega, by omega, by show T.toArray.size ≤ _; simp; omega, ⟨rfl⟩, rfl⟩
    case round =>
      obtain ⟨i, X, rfl, rfl, him, hg, hX, HX, rfl⟩ := hrel
      have hX2 : 1 + X.size ≤ 9223372036854775807 := by omega
      have hX3 : X.size + 2 ≤ 9223372036854775807 := by omega
      have hi0 : (0 : Int) ≤ (i : Int) := by omega
      by_cases hlt : i < m
      · have hlti : (i : Int) < z % 9 := by have := HM.out; omega
        go_wp2
        go_roundg (gk - 1)
        case measure => omega
        case rel => exact ⟨i + 1, _, by go_num, rfl, by omega, by omega, by rw [cat_size]; show 1 + X.size ≤ _; omega, ⟨by rw [cat_list, HX.out, List.replicate_succ]; rfl⟩, rfl⟩
      · obtain rfl : i = m := by omega
        have hlti : ¬ (i : Int) < z % 9 := by have := HM.out; omega
        have hLx := HL.out (X ++ ⟨#[32, 97]⟩) (by rw [cat_size]; show X.size + 2 ≤ _; omega) wr HB2
        rw [cat_list, HX.out, show (⟨#[32, 97]⟩ : ByteArray).data.toList = [32, 97] from rfl, HPL.out i hm8] at hLx
        generalize (((List.replicate i 48 ++ T).length + 1 : Nat) : Int) = q at hLx
        clear HX HPL HL hg hm8 hlt
        go_wp2_with (go_at_call 10; refine hLx.mono ?_)
        first
          | (intro e W3 v he ho hb; subst he)
          | rintro e W3 ⟨v, rfl, ho, hb⟩
        have hform : ∃ g cap, v = .slice (some ⟨g, 0, none⟩) 2 cap := by
          rcases ho.2 with ⟨_, h0⟩ | ⟨g, cap, cur, h, _⟩
          · exact absurd h0 (by decide)
          · exact ⟨g, cap, h⟩
        obtain ⟨g, cap, rfl⟩ := hform
        have hcs := ho.cells (g := g) rfl
        have h0 : W3.cell? ⟨g, 0, none⟩ = some (.int .i64 3) := hcs 0 _ rfl
        have h2 : W3.cell? ⟨g, 2, none⟩ = some (.int .i64 n) := hcs 2 _ rfl
        have h5 : W3.cell? ⟨g, 5, none⟩ = some (.string ⟨#[97]⟩) := hcs 5 _ rfl
        have h0' : W3.cell? ((⟨g, 0, none⟩ : Addr).add 0) = some (.int .i64 3) := h0
        have h2' : W3.cell? ((⟨g, 0, none⟩ : Addr).add 2) = some (.int .i64 n) := h2
        have h5' : W3.cell? ((⟨g, 0, none⟩ : Addr).add 5) = some (.string ⟨#[97]⟩) := h5
        have HB3 := below_then HB2 hb
        clear hcs ho hb HB2
        go_wp2
        go_ret
        exact ⟨rfl, HB3⟩
end Go.Proofs.YtokhbjagcnjiaaaDoor
