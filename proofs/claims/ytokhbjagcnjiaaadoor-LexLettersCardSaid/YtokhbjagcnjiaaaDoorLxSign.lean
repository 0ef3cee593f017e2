/- lex.sign: the sign that a text begins with. -/
import Derived.Test.YtokhbjagcnjiaaaDoorLxRun
import Derived.Test.YtokhbjagcnjiaaaDoorShelf
set_option linter.unusedVariables false
set_option linter.unusedSimpArgs false
namespace Go.Proofs.YtokhbjagcnjiaaaDoor
open Go.RowKit

theorem ext_list (s : ByteArray) (a b : Nat) : (s.extract a b).data.toList = (s.data.toList.drop a).take (b - a) := by
  rw [ByteArray.data_extract, Array.toList_extract]
def signs : List UInt8 := [40, 41, 91, 93, 45, 62, 60, 44, 58, 46, 61, 43, 42, 47, 37]
/-- The sign that a text begins with; nothing: there is none. -/
def signL (l : List UInt8) : List UInt8 :=
  if Lib.hasPrefix l [60, 62] then [60, 62] else if Lib.hasPrefix l [60, 61] then [60, 61] else if Lib.hasPrefix l [62, 61] then [62, 61] else if Lib.hasPrefix l [46, 46] then [46, 46]
  else if 0 ≤ Lib.indexByte signs (l.headD 0) then l.take 1 else []

set_option maxRecDepth 100000 in
set_option maxHeartbeats 1600000 in
theorem sign_any (s : ByteArray) (w : World) (hs : s.size ≤ 9223372036854775807) (h0 : 0 < s.size) :
    Calls Tryd.prog 27 #[.string s] w fun e w' => e = .returned (.string ⟨(signL s.data.toList).toArray⟩) ∧ w = w' := by
  have hp0 : ∀ W, Calls Tryd.prog 34 #[.string s, .string ⟨#[60, 62]⟩] W fun e w' => e = .returned (.bool (Lib.hasPrefix s.data.toList [60, 62])) ∧ w' = W := fun W => Tryd.strings_HasPrefix s ⟨#[60, 62]⟩ W
  have hx0 : ∀ W, (Instr.index 70 (.agg #[.string ⟨#[60, 62]⟩, .string ⟨#[60, 61]⟩, .string ⟨#[62, 61]⟩, .string ⟨#[46, 46]⟩]) (.int .i64 0)).run Tryd.prog W = .ok (.string ⟨#[60, 62]⟩) W := fun W => by kernel_rfl
  have hp1 : ∀ W, Calls Tryd.prog 34 #[.string s, .string ⟨#[60, 61]⟩] W fun e w' => e = .returned (.bool (Lib.hasPrefix s.data.toList [60, 61])) ∧ w' = W := fun W => Tryd.strings_HasPrefix s ⟨#[60, 61]⟩ W
  have hx1 : ∀ W, (Instr.index 70 (.agg #[.string ⟨#[60, 62]⟩, .string ⟨#[60, 61]⟩, .string ⟨#[62, 61]⟩, .string ⟨#[46, 46]⟩]) (.int .i64 1)).run Tryd.prog W = .ok (.string ⟨#[60, 61]⟩) W := fun W => by kernel_rfl
  have hp2 : ∀ W, Calls Tryd.prog 34 #[.string s, .string ⟨#[62, 61]⟩] W fun e w' => e = .returned (.bool (Lib.hasPrefix s.data.toList [62, 61])) ∧ w' = W := fun W => Tryd.strings_HasPrefix s ⟨#[62, 61]⟩ W
  have hx2 : ∀ W, (Instr.index 70 (.agg #[.string ⟨#[60, 62]⟩, .string ⟨#[60, 61]⟩, .string ⟨#[62, 61]⟩, .string ⟨#[46, 46]⟩]) (.int .i64 2)).run Tryd.prog W = .ok (.string ⟨#[62, 61]⟩) W := fun W => by kernel_rfl
  have hp3 : ∀ W, Calls Tryd.prog 34 #[.string s, .string ⟨#[46, 46]⟩] W fun e w' => e = .returned (.bool (Lib.hasPrefix s.data.toList [46, 46])) ∧ w' = W := fun W => Tryd.strings_HasPrefix s ⟨#[46, 46]⟩ W
  have hx3 : ∀ W, (Instr.index 70 (.agg #[.string ⟨#[60, 62]⟩, .string ⟨#[60, 61]⟩, .string ⟨#[62, 61]⟩, .string ⟨#[46, 46]⟩]) (.int .i64 3)).run Tryd.prog W = .ok (.string ⟨#[46, 46]⟩) W := fun W => by kernel_rfl
  have hI : ∀ W, Calls Tryd.prog 38 #[.string ⟨#[40, 41, 91, 93, 45, 62, 60, 44, 58, 46, 61, 43, 42, 47, 37]⟩, .int .u8 ((s.data.toList.headD 0).toNat : Int)] W fun e w' => e = .returned (.int .i64 (Lib.indexByte signs (s.data.toList.headD 0))) ∧ w' = W := fun W => by
    have := Tryd.strings_IndexByte ⟨#[40, 41, 91, 93, 45, 62, 60, 44, 58, 46, 61, 43, 42, 47, 37]⟩ ((s.data.toList.headD 0).toNat : Int) W
    simpa [signs] using this
  have hix : ∀ W, (Instr.index 9 (.string s) (.int .i64 0)).run Tryd.prog W = .ok (.int .u8 ((s.data.toList.headD 0).toNat : Int)) W := fun W => by
    rw [run_index_string W 9 s .i64 0 Tryd.underlying9, dif_pos ⟨by omega, by omega⟩]
    have hk : 0 < s.data.size := h0
    have e : s.data.toList.headD 0 = s.data[0]'hk := by
      rw [List.headD_eq_head?_getD, List.head?_eq_getElem?, Array.getElem?_toList, Array.getElem?_eq_getElem hk]
      rfl
    rw [e]
    rfl
  have hsl : ∀ W, (Instr.slice 9 (.string s) none (some (.int .i64 1)) none).run Tryd.prog W = .ok (.string ⟨(s.data.toList.take 1).toArray⟩) W := fun W => by
    have e : s.extract 0 1 = ⟨(s.data.toList.take 1).toArray⟩ := by
      apply ByteArray.ext
      rw [← Array.toList_inj, ext_list]
      simp
    rw [← e]
    go_simp
    intro h
    omega
  unfold signL
  generalize Lib.hasPrefix s.data.toList [60, 62] = b0 at hp0 ⊢
  generalize Lib.hasPrefix s.data.toList [60, 61] = b1 at hp1 ⊢
  generalize Lib.hasPrefix s.data.toList [62, 61] = b2 at hp2 ⊢
  generalize Lib.hasPrefix s.data.toList [46, 46] = b3 at hp3 ⊢
  generalize hT : (⟨(s.data.toList.take 1).toArray⟩ : ByteArray) = T at hsl
  generalize Lib.indexByte signs (s.data.toList.headD 0) = q at hI ⊢
  generalize ((s.data.toList.headD 0).toNat : Int) = y at hI hix
  cases b0
  case true =>
    go_enter Tryd.func27, Tryd.ntmps27
    go_wp2
    refine wp_loop_rounds 1 ?_
    rw [rounds_succ]
    go_wp2_with (first | (go_at_call 34; (first | (with_reducible refine (hp0 _).mono ?_) | (with_reducible refine (hp1 _).mono ?_) | (with_reducible refine (hp2 _).mono ?_) | (with_reducible refine (hp3 _).mono ?_)); rintro e w1 ⟨rfl, rfl⟩) | (go_at_call 38; refine (hI _).mono ?_; rintro e w1 ⟨rfl, rfl⟩))
    go_ret
    exact ⟨rfl, rfl⟩
  cases b1
  case true =>
    go_enter Tryd.func27, Tryd.ntmps27
    go_wp2
    refine wp_loop_rounds 2 ?_
    rw [rounds_succ]
    go_wp2_with (first | (go_at_call 34; (first | (with_reducible refine (hp0 _).mono ?_) | (with_reducible refine (hp1 _).mono ?_) | (with_reducible refine (hp2 _).mono ?_) | (with_reducible refine (hp3 _).mono ?_)); rintro e w1 ⟨rfl, rfl⟩) | (go_at_call 38; refine (hI _).mono ?_; rintro e w1 ⟨rfl, rfl⟩))
    rw [rounds_succ]
    go_wp2_with (first | (go_at_call 34; (first | (with_reducible refine (hp0 _).mono ?_) | (with_reducible refine (hp1 _).mono ?_) | (with_reducible refine (hp2 _).mono ?_) | (with_reducible refine (hp3 _).mono ?_)); rintro e w1 ⟨rfl, rfl⟩) | (go_at_call 38; refine (hI _).mono ?_; rintro e w1 ⟨rfl, rfl⟩))
    go_ret
    exact ⟨rfl, rfl⟩
  cases b2
  case true =>
    go_enter Tryd.func27, Tryd.ntmps27
    go_wp2
    refine wp_loop_rounds 3 ?_
    rw [rounds_succ]
    go_wp2_with (first | (go_at_call 34; (first | (with_reducible refine (hp0 _).mono ?_) | (with_reducible refine (hp1 _).mono ?_) | (with_reducible refine (hp2 _).mono ?_) | (with_reducible refine (hp3 _).mono ?_)); rintro e w1 ⟨rfl, rfl⟩) | (go_at_call 38; refine (hI _).mono ?_; rintro e w1 ⟨rfl, rfl⟩))
    rw [rounds_succ]
    go_wp2_with (first | (go_at_call 34; (first | (with_reducible refine (hp0 _).mono ?_) | (with_reducible refine (hp1 _).mono ?_) | (with_reducible refine (hp2 _).mono ?_) | (with_reducible refine (hp3 _).mono ?_)); rintro e w1 ⟨rfl, rfl⟩) | (go_at_call 38; refine (hI _).mono ?_; rintro e w1 ⟨rfl, rfl⟩))
    rw [rounds_succ]
    go_wp2_with (first | (go_at_call 34; (first | (with_reducible refine (hp0 _).mono ?_) | (with_reducible refine (hp1 _).mono ?_) | (with_reducible refine (hp2 _).mono ?_) | (with_reducible refine (hp3 _).mono ?_)); rintro e w1 ⟨rfl, rfl⟩) | (go_at_call 38; refine (hI _).mono ?_; rintro e w1 ⟨rfl, rfl⟩))
    go_ret
    exact ⟨rfl, rfl⟩
  cases b3
  case true =>
    go_enter Tryd.func27, Tryd.ntmps27
    go_wp2
    refine wp_loop_rounds 4 ?_
    rw [rounds_succ]
    go_wp2_with (first | (go_at_call 34; (first | (with_reducible refine (hp0 _).mono ?_) | (with_reducible refine (hp1 _).mono ?_) | (with_reducible refine (hp2 _).mono ?_) | (with_reducible refine (hp3 _).mono ?_)); rintro e w1 ⟨rfl, rfl⟩) | (go_at_call 38; refine (hI _).mono ?_; rintro e w1 ⟨rfl, rfl⟩))
    rw [rounds_succ]
    go_wp2_with (first | (go_at_call 34; (first | (with_reducible refine (hp0 _).mono ?_) | (with_reducible refine (hp1 _).mono ?_) | (with_reducible refine (hp2 _).mono ?_) | (with_reducible refine (hp3 _).mono ?_)); rintro e w1 ⟨rfl, rfl⟩) | (go_at_call 38; refine (hI _).mono ?_; rintro e w1 ⟨rfl, rfl⟩))
    rw [rounds_succ]
    go_wp2_with (first | (go_at_call 34; (first | (with_reducible refine (hp0 _).mono ?_) | (with_reducible refine (hp1 _).mono ?_) | (with_reducible refine (hp2 _).mono ?_) | (with_reducible refine (hp3 _).mono ?_)); rintro e w1 ⟨rfl, rfl⟩) | (go_at_call 38; refine (hI _).mono ?_; rintro e w1 ⟨rfl, rfl⟩))
    rw [rounds_succ]
    go_wp2_with (first | (go_at_call 34; (first | (with_reducible refine (hp0 _).mono ?_) | (with_reducible refine (hp1 _).mono ?_) | (with_reducible refine (hp2 _).mono ?_) | (with_reducible refine (hp3 _).mono ?_)); rintro e w1 ⟨rfl, rfl⟩) | (go_at_call 38; refine (hI _).mono ?_; rintro e w1 ⟨rfl, rfl⟩))
    go_ret
    exact ⟨rfl, rfl⟩
  by_cases hq : 0 ≤ q
  · go_enter Tryd.func27, Tryd.ntmps27
    go_wp2
    refine wp_loop_rounds 5 ?_
    rw [rounds_succ]
    go_wp2_with (first | (go_at_call 34; (first | (with_reducible refine (hp0 _).mono ?_) | (with_reducible refine (hp1 _).mono ?_) | (with_reducible refine (hp2 _).mono ?_) | (with_reducible refine (hp3 _).mono ?_)); rintro e w1 ⟨rfl, rfl⟩) | (go_at_call 38; refine (hI _).mono ?_; rintro e w1 ⟨rfl, rfl⟩))
    rw [rounds_succ]
    go_wp2_with (first | (go_at_call 34; (first | (with_reducible refine (hp0 _).mono ?_) | (with_reducible refine (hp1 _).mono ?_) | (with_reducible refine (hp2 _).mono ?_) | (with_reducible refine (hp3 _).mono ?_)); rintro e w1 ⟨rfl, rfl⟩) | (go_at_call 38; refine (hI _).mono ?_; rintro e w1 ⟨rfl, rfl⟩))
    rw [rounds_succ]
    go_wp2_with (first | (go_at_call 34; (first | (with_reducible refine (hp0 _).mono ?_) | (with_reducible refine (hp1 _).mono ?_) | (with_reducible refine (hp2 _).mono ?_) | (with_reducible refine (hp3 _).mono ?_)); rintro e w1 ⟨rfl, rfl⟩) | (go_at_call 38; refine (hI _).mono ?_; rintro e w1 ⟨rfl, rfl⟩))
    rw [rounds_succ]
    go_wp2_with (first | (go_at_call 34; (first | (with_reducible refine (hp0 _).mono ?_) | (with_reducible refine (hp1 _).mono ?_) | (with_reducible refine (hp2 _).mono ?_) | (with_reducible refine (hp3 _).mono ?_)); rintro e w1 ⟨rfl, rfl⟩) | (go_at_call 38; refine (hI _).mono ?_; rintro e w1 ⟨rfl, rfl⟩))
    rw [rounds_succ]
    go_wp2_with (first | (go_at_call 34; (first | (with_reducible refine (hp0 _).mono ?_) | (with_reducible refine (hp1 _).mono ?_) | (with_reducible refine (hp2 _).mono ?_) | (with_reducible refine (hp3 _).mono ?_)); rintro e w1 ⟨rfl, rfl⟩) | (go_at_call 38; refine (hI _).mono ?_; rintro e w1 ⟨rfl, rfl⟩))
    go_ret
    refine ⟨congrArg (fun x => Ending.returned (Value.string x)) ?_, rfl⟩
    rw [← hT]
    first | done | simp [hq]
  · go_enter Tryd.func27, Tryd.ntmps27
    go_wp2
    refine wp_loop_rounds 5 ?_
    rw [rounds_succ]
    go_wp2_with (first | (go_at_call 34; (first | (with_reducible refine (hp0 _).mono ?_) | (with_reducible refine (hp1 _).mono ?_) | (with_reducible refine (hp2 _).mono ?_) | (with_reducible refine (hp3 _).mono ?_)); rintro e w1 ⟨rfl, rfl⟩) | (go_at_call 38; refine (hI _).mono ?_; rintro e w1 ⟨rfl, rfl⟩))
    rw [rounds_succ]
    go_wp2_with (first | (go_at_call 34; (first | (with_reducible refine (hp0 _).mono ?_) | (with_reducible refine (hp1 _).mono ?_) | (with_reducible refine (hp2 _).mono ?_) | (with_reducible refine (hp3 _).mono ?_)); rintro e w1 ⟨rfl, rfl⟩) | (go_at_call 38; refine (hI _).mono ?_; rintro e w1 ⟨rfl, rfl⟩))
    rw [rounds_succ]
    go_wp2_with (first | (go_at_call 34; (first | (with_reducible refine (hp0 _).mono ?_) | (with_reducible refine (hp1 _).mono ?_) | (with_reducible refine (hp2 _).mono ?_) | (with_reducible refine (hp3 _).mono ?_)); rintro e w1 ⟨rfl, rfl⟩) | (go_at_call 38; refine (hI _).mono ?_; rintro e w1 ⟨rfl, rfl⟩))
    rw [rounds_succ]
    go_wp2_with (first | (go_at_call 34; (first | (with_reducible refine (hp0 _).mono ?_) | (with_reducible refine (hp1 _).mono ?_) | (with_reducible refine (hp2 _).mono ?_) | (with_reducible refine (hp3 _).mono ?_)); rintro e w1 ⟨rfl, rfl⟩) | (go_at_call 38; refine (hI _).mono ?_; rintro e w1 ⟨rfl, rfl⟩))
    rw [rounds_succ]
    go_wp2_with (first | (go_at_call 34; (first | (with_reducible refine (hp0 _).mono ?_) | (with_reducible refine (hp1 _).mono ?_) | (with_reducible refine (hp2 _).mono ?_) | (with_reducible refine (hp3 _).mono ?_)); rintro e w1 ⟨rfl, rfl⟩) | (go_at_call 38; refine (hI _).mono ?_; rintro e w1 ⟨rfl, rfl⟩))
    go_ret
    have hq2 : ¬ 0 ≤ q := by omega
    refine ⟨congrArg (fun x => Ending.returned (Value.string x)) ?_, rfl⟩
    simp [hq2]
end Go.Proofs.YtokhbjagcnjiaaaDoor
