/- lex.quoted: the text that stands at a text's beginning. -/
import Derived.Test.YtokhbjagcnjiaaaDoorLxBld
import Derived.Test.YtokhbjagcnjiaaaDoorLxRun
import Derived.Test.YtokhbjagcnjiaaaDoorShelf
import Derived.Deep.LoopGhost
import Derived.WalkMore
import Derived.ScopeJumps
set_option linter.unusedVariables false
set_option linter.unusedSimpArgs false
namespace Go.Proofs.YtokhbjagcnjiaaaDoor
open Go.RowKit

/-- The text that is read, and how many bytes it takes; 0: there is none. -/
def quotF : Nat → Nat → Bool → List UInt8 → List UInt8 → List UInt8 × Nat
  | 0, _, _, _, _ => ([], 0)
  | f + 1, i, bh, acc, l =>
    if l = [] then ([], 0)
    else if i = 0 then quotF f (i + (Lib.decodeL l).2) bh acc (l.drop (Lib.decodeL l).2)
    else if (Lib.decodeL l).1 = 65533 ∧ Lib.hasPrefix l [239, 191, 189] = false then ([], 0)
    else if bh = true ∧ (Lib.decodeL l).1 = 110 then quotF f (i + (Lib.decodeL l).2) false (acc ++ [10]) (l.drop (Lib.decodeL l).2)
    else if bh = true ∧ (Lib.decodeL l).1 ≠ 39 ∧ (Lib.decodeL l).1 ≠ 92 then ([], 0)
    else if bh = false ∧ (Lib.decodeL l).1 = 39 then (acc, i + 1)
    else if bh = false ∧ (Lib.decodeL l).1 = 92 then quotF f (i + (Lib.decodeL l).2) true acc (l.drop (Lib.decodeL l).2)
    else quotF f (i + (Lib.decodeL l).2) false (acc ++ Lib.encodeRune (Lib.decodeL l).1) (l.drop (Lib.decodeL l).2)
def quotL (l : List UInt8) : List UInt8 × Nat := quotF l.length 0 false [] l
theorem quotF_nil : ∀ f i bh acc, quotF f i bh acc [] = ([], 0)
  | 0, _, _, _ => rfl
  | _ + 1, _, _, _ => rfl

set_option maxRecDepth 100000 in
set_option maxHeartbeats 8000000 in
theorem quoted_any (s : ByteArray) (w : World) (hs : s.size ≤ 1048576) :
    Calls Tryd.prog 26 #[.string s] w fun e w' => e = .returned (.tuple #[.string ⟨(quotL s.data.toList).1.toArray⟩, .int .i64 ((quotL s.data.toList).2 : Nat)]) ∧ Below w.heap.size w w' := by
  obtain ⟨T, m, hT⟩ : ∃ T m, quotL s.data.toList = (T, m) := ⟨_, _, rfl⟩
  rw [hT]
  have HT := Aside0.mk hT
  have hI0 : IsB w.heap.size w.heap.size [] (w.alloc (.cells #[.pointer none, .slice none 0 0] 62)) := Lib.IsBuilderF.of (Lib.fresh_isBuilder 62 5 w)
  have hB0 : Below w.heap.size w (w.alloc (.cells #[.pointer none, .slice none 0 0] 62)) := (Below.refl _ w).alloc (Nat.le_refl _) _
  have HI0 := Aside0.mk hI0
  clear hT hI0
  go_enter Tryd.func26, Tryd.ntmps26
  go_wp2
  refine wp_scope_jumps 0 (fun a' w' => ∃ u0 u1 u2 u3 u4 u5 u6 u7 u8 u9 u10 u11 u12 u13 u14 u15 u16 u17 u18 u19 u20 u21 u22 u23 u24 u25 u26 u27 u28 u29 u30 u31 u32 u33 u34 u35 u36 u37 u38 u39 u40 u41 u42 u43 u44 u45 u46 u47 u48 u49 u50 u51 u52 u53 u54 u55 u56 u57 u58 u59 u60 u61 u62 : Value, a' = { tmps := #[u0, u1, u2, u3, u4, u5, u6, u7, u8, u9, u10, u11, u12, u13, u14, u15, u16, u17, u18, u19, u20, u21, u22, u23, u24, u25, u26, u27, u28, u29, u30, u31, u32, u33, u34, u35, u36, u37, u38, u39, u40, u41, u42, u43, u44, u45, u46, u47, u48, u49, u50, u51, u52, u53, u54, u55, u56, u57, u58, u59, u60, u61, u62], defers := [] } ∧ T = [] ∧ m = 0 ∧ Below w.heap.size w w') (fun _ _ => 0) rfl ?first ?pass
  case pass =>
    rintro a' w' ⟨u0, u1, u2, u3, u4, u5, u6, u7, u8, u9, u10, u11, u12, u13, u14, u15, u16, u17, u18, u19, u20, u21, u22, u23, u24, u25, u26, u27, u28, u29, u30, u31, u32, u33, u34, u35, u36, u37, u38, u39, u40, u41, u42, u43, u44, u45, u46, u47, u48, u49, u50, u51, u52, u53, u54, u55, u56, u57, u58, u59, u60, u61, u62, rfl, rfl, rfl, hb⟩
    go_wp2
    first
      | go_ret2
      | (simp only [Exit.jump]; go_ret2)
      | (change Exit.jump _ _ _ Exit.ret _ _; simp only [Exit.jump]; go_ret2)
    exact ⟨rfl, hb⟩
  case first =>
  go_wp2
  go_loopg [5] (s.size + 1) (fun gg s5 wr => ∃ (pos fuel : Nat) (acc : List UInt8) (bh : Bool), s5 = .bool bh ∧ IsB w.heap.size w.heap.size (Lib.byteCells acc) wr ∧ wr.heap[w.heap.size + 1]? = some (.stringIter s pos) ∧ Below w.heap.size w wr ∧ Aside0 (quotF fuel pos bh acc (s.data.toList.drop pos) = (T, m)) ∧ s.size ≤ pos + fuel ∧ acc.length ≤ 4 * pos ∧ pos ≤ s.size ∧ s.size < gg + pos)
  case atStart =>
    refine ⟨0, s.size, [], false, rfl, ?_, ?_, ?_, ⟨HT.out⟩, by omega, by simp, by omega, by omega⟩
    · exact Lib.IsBuilderF.alloc HI0.out _
    · have := World.iter_heap (w.alloc (.cells #[.pointer none, .slice none 0 0] 62)) s 0
      simpa using this
    · exact hB0.alloc (by simp) _
  case round =>
    obtain ⟨pos, fuel, acc, bh, rfl, hI, hit, hbw, HV, hfu, hal, hps, hg⟩ := hrel
    have hsz : w.heap.size + 1 < wr.heap.size := (Array.getElem?_eq_some_iff.1 hit).1
    by_cases hp : pos < s.size
    · have hnx : ∀ ty, (Instr.next (.pointer (some ⟨w.heap.size + 1, 0, none⟩)) true ty).run Tryd.prog wr = _ := fun ty => Lib.run_next_any_at wr (w.heap.size + 1) s pos ty hit hp
      have hwd := decode_wd s pos hp
      have hd1 := decode_le s pos
      have hI2 := hI.iterAt hit (pos + (Utf8.decode s pos).2)
      have hit2 := Lib.iterAt_heap wr (w.heap.size + 1) s pos (pos + (Utf8.decode s pos).2) hit
      have hbw2 := Lib.below_iterAt hbw (k := w.heap.size + 1) (by omega) s (pos + (Utf8.decode s pos).2)
      have hsz2 : w.heap.size ≤ (wr.iterAt (w.heap.size + 1) s (pos + (Utf8.decode s pos).2)).heap.size := by rw [Lib.iterAt_size]; omega
      obtain ⟨f, rfl⟩ : ∃ f, fuel = f + 1 := ⟨fuel - 1, by omega⟩
      have hst := HV.out
      rw [quotF, if_neg (drop_ne hp), Lib.decodeL_drop, List.drop_drop] at hst
      generalize hdr : (Utf8.decode s pos).1 = r at *
      generalize (Utf8.decode s pos).2 = d at *
      generalize hWW : wr.iterAt (w.heap.size + 1) s (pos + d) = W at *
      clear hWW hI hit hbw hdr HV
      have hlc : (Lib.byteCells acc).length = acc.length := Lib.byteCells_length acc
      have hgk : 0 < gk := by omega
      have hpi : (pos : Int) ≤ (s.size : Int) := by omega
      by_cases hp0 : pos = 0
      · subst hp0
        rw [if_pos rfl] at hst
        have HS := Aside0.mk hst
        clear hst
        go_wp2
        go_roundg (gk - 1)
        case measure => omega
        case rel => exact ⟨0 + d, f, acc, bh, rfl, hI2, hit2, hbw2, HS, by omega, by omega, by omega, by omega⟩
      · rw [if_neg hp0] at hst
        by_cases h33 : r = 65533
        · subst h33
          have hPx : ∀ W, Calls Tryd.prog 34 #[.string (s.extract pos s.size), .string ⟨#[239, 191, 189]⟩] W fun e w' => e = .returned (.bool (Lib.hasPrefix (s.data.toList.drop pos) [239, 191, 189])) ∧ w' = W := fun W => by
            have h := Tryd.strings_HasPrefix (s.extract pos s.size) ⟨#[239, 191, 189]⟩ W
            rw [Lib.extract_to_end s pos] at h
            exact h
          cases hb3 : Lib.hasPrefix (s.data.toList.drop pos) [239, 191, 189]
          · rw [hb3] at hPx hst
            rw [if_pos ⟨rfl, rfl⟩] at hst
            have HS := Aside0.mk hst
            clear hst hb3
            have hTm : T = [] ∧ m = 0 := by have h := HS.out; simp only [Prod.mk.injEq] at h; exact ⟨h.1.symm, h.2.symm⟩
            go_wp2_with (go_at_call 34; refine (hPx _).mono ?_; rintro e w1 ⟨rfl, rfl⟩)
            go_step3
            apply And.intro rfl
            exact ⟨_, _, _, _, _, _, _, _, _, _, _, _, _, _, _, _, _, _, _, _, _, _, _, _, _, _, _, _, _, _, _, _, _, _, _, _, _, _, _, _, _, _, _, _, _, _, _, _, _, _, _, _, _, _, _, _, _, _, _, _, _, _, _, rfl, hTm.1, hTm.2, hbw2⟩
          · rw [hb3] at hPx hst
            rw [if_neg (by simp)] at hst
            clear hb3
            cases bh
            · rw [if_neg (by simp), if_neg (by simp), if_neg (by simp), if_neg (by simp)] at hst
              have HS := Aside0.mk hst
              clear hst
              go_wp2_with (first | (go_at_call 34; refine (hPx _).mono ?_; rintro e w1 ⟨rfl, rfl⟩) | (go_at_call 37; refine (bld_rune w.heap.size w.heap.size _ 65533 (by omega) (by omega) _ hI2 (by rw [hlc]; omega) hsz2).mono ?_))
              first
                | (intro e V0 he h0 b0 k0; subst he)
                | rintro e V0 ⟨rfl, h0, b0, k0⟩
              have it0 := k0.iter hit2 (by omega)
              have bw0 := hbw2.trans b0
              have hx0 : IsB w.heap.size w.heap.size (Lib.byteCells (acc ++ Lib.encodeRune 65533)) V0 := by
                rw [Lib.byteCells_append, Lib.byteCells_encodeRune]
                exact h0
              clear k0 b0 h0 hI2 hit2 hbw2
              go_wp2
              go_roundg (gk - 1)
              case measure => omega
              case rel => exact ⟨pos + d, f, acc ++ Lib.encodeRune 65533, false, rfl, hx0, it0, bw0, HS, by omega, (by have h := Lib.runeCells_le (65533 : Int); rw [Lib.runeCells_length] at h; simp only [List.length_append] at *; omega), by omega, by omega⟩
            · rw [if_neg (by simp), if_pos (by simp)] at hst
              have HS := Aside0.mk hst
              clear hst
              have hTm : T = [] ∧ m = 0 := by have h := HS.out; simp only [Prod.mk.injEq] at h; exact ⟨h.1.symm, h.2.symm⟩
              go_wp2_with (go_at_call 34; refine (hPx _).mono ?_; rintro e w1 ⟨rfl, rfl⟩)
              go_step3
              apply And.intro rfl
              exact ⟨_, _, _, _, _, _, _, _, _, _, _, _, _, _, _, _, _, _, _, _, _, _, _, _, _, _, _, _, _, _, _, _, _, _, _, _, _, _, _, _, _, _, _, _, _, _, _, _, _, _, _, _, _, _, _, _, _, _, _, _, _, _, _, rfl, hTm.1, hTm.2, hbw2⟩
        · rw [if_neg (by simp [h33])] at hst
          cases bh
          · rw [if_neg (by simp), if_neg (by simp)] at hst
            by_cases h39 : r = 39
            · subst h39
              rw [if_pos ⟨rfl, rfl⟩] at hst
              have HS := Aside0.mk hst
              clear hst
              go_wp2_with (go_at_call 36; refine (bld_string w.heap.size w.heap.size acc _ hI2 hsz2).mono ?_)
              first
                | (intro e V0 he h0 b0 k0; subst he)
                | rintro e V0 ⟨rfl, h0, b0, k0⟩
              have bw0 := hbw2.trans b0
              go_wp2
              have hTm : T = acc ∧ m = pos + 1 := by have h := HS.out; simp only [Prod.mk.injEq] at h; exact ⟨h.1.symm, h.2.symm⟩
              first
                | go_ret2
                | (simp only [Exit.jump]; go_ret2)
                | (change Exit.jump _ _ _ Exit.ret _ _; simp only [Exit.jump]; go_ret2)
              exact ⟨by rw [hTm.1, hTm.2]; rfl, bw0⟩
            · rw [if_neg (by simp [h39])] at hst
              by_cases h92 : r = 92
              · subst h92
                rw [if_pos ⟨rfl, rfl⟩] at hst
                have HS := Aside0.mk hst
                clear hst
                go_wp2
                go_roundg (gk - 1)
                case measure => omega
                case rel => exact ⟨pos + d, f, acc, true, rfl, hI2, hit2, hbw2, HS, by omega, by omega, by omega, by omega⟩
              · rw [if_neg (by simp [h92])] at hst
                have HS := Aside0.mk hst
                clear hst
                go_wp2_with ((go_at_call 37; refine (bld_rune w.heap.size w.heap.size _ (r : Int) (by omega) (by omega) _ hI2 (by rw [hlc]; omega) hsz2).mono ?_))
                first
                  | (intro e V0 he h0 b0 k0; subst he)
                  | rintro e V0 ⟨rfl, h0, b0, k0⟩
                have it0 := k0.iter hit2 (by omega)
                have bw0 := hbw2.trans b0
                have hx0 : IsB w.heap.size w.heap.size (Lib.byteCells (acc ++ Lib.encodeRune r)) V0 := by
                  rw [Lib.byteCells_append, Lib.byteCells_encodeRune]
                  exact h0
                clear k0 b0 h0 hI2 hit2 hbw2
                go_wp2
                go_roundg (gk - 1)
                case measure => omega
                case rel => exact ⟨pos + d, f, acc ++ Lib.encodeRune r, false, rfl, hx0, it0, bw0, HS, by omega, (by have h := Lib.runeCells_le (r : Int); rw [Lib.runeCells_length] at h; simp only [List.length_append] at *; omega), by omega, by omega⟩
          · by_cases h110 : r = 110
            · subst h110
              rw [if_pos ⟨rfl, rfl⟩] at hst
              have HS := Aside0.mk hst
              clear hst
              go_wp2_with ((go_at_call 35; refine (bld_byte w.heap.size w.heap.size _ 10 _ hI2 (by rw [hlc]; omega) hsz2).mono ?_))
              first
                | (intro e V0 he h0 b0 k0; subst he)
                | rintro e V0 ⟨rfl, h0, b0, k0⟩
              have it0 := k0.iter hit2 (by omega)
              have bw0 := hbw2.trans b0
              have hx0 : IsB w.heap.size w.heap.size (Lib.byteCells (acc ++ [10])) V0 := by
                rw [Lib.byteCells_append]
                exact h0
              clear k0 b0 h0 hI2 hit2 hbw2
              go_wp2
              go_roundg (gk - 1)
              case measure => omega
              case rel => exact ⟨pos + d, f, acc ++ [10], false, rfl, hx0, it0, bw0, HS, by omega, (by simp only [List.length_append, List.length_singleton] at *; omega), by omega, by omega⟩
            · rw [if_neg (by simp [h110])] at hst
              by_cases h39 : r = 39
              · subst h39
                rw [if_neg (by simp), if_neg (by simp), if_neg (by simp)] at hst
                have HS := Aside0.mk hst
                clear hst
                go_wp2_with ((go_at_call 37; refine (bld_rune w.heap.size w.heap.size _ 39 (by omega) (by omega) _ hI2 (by rw [hlc]; omega) hsz2).mono ?_))
                first
                  | (intro e V0 he h0 b0 k0; subst he)
                  | rintro e V0 ⟨rfl, h0, b0, k0⟩
                have it0 := k0.iter hit2 (by omega)
                have bw0 := hbw2.trans b0
                have hx0 : IsB w.heap.size w.heap.size (Lib.byteCells (acc ++ Lib.encodeRune 39)) V0 := by
                  rw [Lib.byteCells_append, Lib.byteCells_encodeRune]
                  exact h0
                clear k0 b0 h0 hI2 hit2 hbw2
                go_wp2
                go_roundg (gk - 1)
                case measure => omega
                case rel => exact ⟨pos + d, f, acc ++ Lib.encodeRune 39, false, rfl, hx0, it0, bw0, HS, by omega, (by have h := Lib.runeCells_le (39 : Int); rw [Lib.runeCells_length] at h; simp only [List.length_append] at *; omega), by omega, by omega⟩
              · by_cases h92 : r = 92
                · subst h92
                  rw [if_neg (by simp), if_neg (by simp), if_neg (by simp)] at hst
                  have HS := Aside0.mk hst
                  clear hst
                  go_wp2_with ((go_at_call 37; refine (bld_rune w.heap.size w.heap.size _ 92 (by omega) (by omega) _ hI2 (by rw [hlc]; omega) hsz2).mono ?_))
                  first
                    | (intro e V0 he h0 b0 k0; subst he)
                    | rintro e V0 ⟨rfl, h0, b0, k0⟩
                  have it0 := k0.iter hit2 (by omega)
                  have bw0 := hbw2.trans b0
                  have hx0 : IsB w.heap.size w.heap.size (Lib.byteCells (acc ++ Lib.encodeRune 92)) V0 := by
                    rw [Lib.byteCells_append, Lib.byteCells_encodeRune]
                    exact h0
                  clear k0 b0 h0 hI2 hit2 hbw2
                  go_wp2
                  go_roundg (gk - 1)
                  case measure => omega
                  case rel => exact ⟨pos + d, f, acc ++ Lib.encodeRune 92, false, rfl, hx0, it0, bw0, HS, by omega, (by have h := Lib.runeCells_le (92 : Int); rw [Lib.runeCells_length] at h; simp only [List.length_append] at *; omega), by omega, by omega⟩
                · rw [if_pos ⟨rfl, h39, h92⟩] at hst
                  have b39 : (((r : Nat) : Int) == 39) = false := by rw [beq_eq_false_iff_ne]; omega
                  have b92 : (((r : Nat) : Int) == 92) = false := by rw [beq_eq_false_iff_ne]; omega
                  have c39 : (((r : Nat) : Int) != 39) = true := by simp [bne, b39]
                  have c92 : (((r : Nat) : Int) != 92) = true := by simp [bne, b92]
                  have b110 : (((r : Nat) : Int) == 110) = false := by rw [beq_eq_false_iff_ne]; omega
                  have b33 : (((r : Nat) : Int) == 65533) = false := by rw [beq_eq_false_iff_ne]; omega
                  have HS := Aside0.mk hst
                  clear hst
                  have hTm : T = [] ∧ m = 0 := by have h := HS.out; simp only [Prod.mk.injEq] at h; exact ⟨h.1.symm, h.2.symm⟩
                  go_wp2
                  go_step3
                  apply And.intro rfl
                  exact ⟨_, _, _, _, _, _, _, _, _, _, _, _, _, _, _, _, _, _, _, _, _, _, _, _, _, _, _, _, _, _, _, _, _, _, _, _, _, _, _, _, _, _, _, _, _, _, _, _, _, _, _, _, _, _, _, _, _, _, _, _, _, _, _, rfl, hTm.1, hTm.2, hbw2⟩
    · have hnx : ∀ ty, (Instr.next (.pointer (some ⟨w.heap.size + 1, 0, none⟩)) true ty).run Tryd.prog wr = _ := fun ty => Lib.run_next_end_at wr (w.heap.size + 1) s pos ty hit hp
      have hst := HV.out
      rw [List.drop_eq_nil_of_le (show s.data.toList.length ≤ pos by show s.size ≤ pos; omega), quotF_nil] at hst
      simp only [Prod.mk.injEq] at hst
      have HT0 := Aside0.mk hst
      clear hst HV
      go_wp2
      go_step3
      go_wp2
      first
        | go_ret2
        | (simp only [Exit.jump]; go_ret2)
        | (change Exit.jump _ _ _ Exit.ret _ _; simp only [Exit.jump]; go_ret2)
      exact ⟨by rw [← HT0.out.1, ← HT0.out.2]; rfl, hbw⟩
end Go.Proofs.YtokhbjagcnjiaaaDoor
