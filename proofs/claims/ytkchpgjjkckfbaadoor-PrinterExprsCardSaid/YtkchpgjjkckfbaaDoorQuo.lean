/- value.quoted: a text between quotes, rune by rune. -/
import Derived.Test.YtkchpgjjkckfbaaDoorBld
import Derived.Test.YtkchpgjjkckfbaaDoorQuoP
import Derived.Deep.LoopGhost
set_option linter.unusedVariables false
set_option linter.unusedSimpArgs false
namespace Go.Proofs.YtkchpgjjkckfbaaDoor
open Go.RowKit

theorem decode_width_pos (s : ByteArray) (pos : Nat) (h : pos < s.size) : 1 ≤ (Utf8.decode s pos).2 := by
  by_cases ha : (s[pos]'h).toNat < 128
  · rw [decode_ascii s pos h ha]
    exact Nat.le_refl _
  · exact (decode_high s pos h (by omega)).2
theorem qruneF_nil : ∀ f, qruneF f [] = []
  | 0 => rfl
  | _ + 1 => rfl
theorem qruneF_step (f : Nat) (s : ByteArray) (pos : Nat) (h : pos < s.size) : qruneF (f + 1) (s.data.toList.drop pos) = qrune (Utf8.decode s pos).1 ++ qruneF f (s.data.toList.drop (pos + (Utf8.decode s pos).2)) := by
  have hl : s.data.toList.length = s.size := rfl
  have hne : s.data.toList.drop pos ≠ [] := by
    intro e
    have := congrArg List.length e
    simp at this
    have h2 : s.data.size = s.size := rfl
    omega
  rw [qruneF, if_neg hne, Lib.decodeL_drop, List.drop_drop]
/-- Between quotes. -/
def quoL (l : List UInt8) : List UInt8 := 39 :: (qruneF l.length l ++ [39])

set_option maxRecDepth 100000 in
set_option maxHeartbeats 4000000 in
theorem quo_any (s : ByteArray) (w : World) (hs : s.size ≤ 1048576) :
    Calls Tryd.prog 94 #[.string s] w fun e w' => e = .returned (.string ⟨(quoL s.data.toList).toArray⟩) ∧ Below w.heap.size w w' := by
  have hI0 : IsB w.heap.size w.heap.size [] (w.alloc (.cells #[.pointer none, .slice none 0 0] 50)) := Lib.IsBuilderF.of (Lib.fresh_isBuilder 50 5 w)
  have hB0 : Below w.heap.size w (w.alloc (.cells #[.pointer none, .slice none 0 0] 50)) := (Below.refl _ w).alloc (Nat.le_refl _) _
  go_enter Tryd.func94, Tryd.ntmps94
  go_wp2_with (go_at_call 109; refine (bld_byte w.heap.size w.heap.size [] 39 _ hI0 (by simp) (by simp)).mono ?_)
  rintro e w1 ⟨rfl, h1, b1, k1⟩
  have hb1 : Below w.heap.size w w1 := hB0.trans b1
  have hN : w.heap.size < w1.heap.size := by have := b1.size; simp at this; omega
  clear hI0 hB0 b1 k1
  go_wp2
  go_loopw [] (fun wr => ∃ (pos fuel : Nat) (acc : List UInt8), IsB w.heap.size w.heap.size (Lib.byteCells (39 :: acc)) wr ∧ wr.heap[w1.heap.size]? = some (.stringIter s pos) ∧ Below w.heap.size w wr ∧ acc ++ qruneF fuel (s.data.toList.drop pos) = qruneF s.data.toList.length s.data.toList ∧ s.size ≤ pos + fuel ∧ acc.length ≤ 8 * pos ∧ pos ≤ s.size) (fun wr => s.size - wr.iterPos w1.heap.size)
  case atStart =>
    refine ⟨0, s.data.toList.length, [], ?_, ?_, ?_, by simp, by show s.data.size ≤ 0 + s.data.toList.length; simp, by simp, by omega⟩
    · exact Lib.IsBuilderF.alloc h1 _
    · have := World.iter_heap w1 s 0
      simpa using this
    · exact hb1.alloc (by omega) _
  case round =>
    obtain ⟨pos, fuel, acc, hI, hit, hbw, hacc, hfu, hal, hps⟩ := hrel
    have hsz : w1.heap.size < wr.heap.size := (Array.getElem?_eq_some_iff.1 hit).1
    by_cases hp : pos < s.size
    · have hnx : ∀ ty, (Instr.next (.pointer (some ⟨w1.heap.size, 0, none⟩)) true ty).run Tryd.prog wr = _ := fun ty => Lib.run_next_any_at wr w1.heap.size s pos ty hit hp
      have hwd := decode_width_pos s pos hp
      have hd1 := decode_le s pos
      have hle : pos + (Utf8.decode s pos).2 ≤ s.size := by
        have h0 := Lib.decodeL_le (s.data.toList.drop pos) (by intro e; have := congrArg List.length e; simp at this; have h2 : s.data.size = s.size := rfl; omega)
        rw [Lib.decodeL_drop, List.length_drop] at h0
        have h2 : s.data.toList.length = s.size := rfl
        omega
      have hI2 := hI.iterAt hit (pos + (Utf8.decode s pos).2)
      have hit2 := Lib.iterAt_heap wr w1.heap.size s pos (pos + (Utf8.decode s pos).2) hit
      have hbw2 := Lib.below_iterAt hbw (k := w1.heap.size) (by omega) s (pos + (Utf8.decode s pos).2)
      have hsz2 : w.heap.size ≤ (wr.iterAt w1.heap.size s (pos + (Utf8.decode s pos).2)).heap.size := by rw [Lib.iterAt_size]; omega
      have hdone : (wr.iterAt w1.heap.size s (pos + (Utf8.decode s pos).2)).iterPos w1.heap.size = pos + (Utf8.decode s pos).2 := by simp only [World.iterPos, hit2]
      obtain ⟨f, rfl⟩ : ∃ f, fuel = f + 1 := ⟨fuel - 1, by omega⟩
      rw [qruneF_step f s pos hp] at hacc
      have hMeas : s.size - (pos + (Utf8.decode s pos).2) < s.size - wr.iterPos w1.heap.size := by
        simp only [World.iterPos, hit]
        omega
      generalize hdr : (Utf8.decode s pos).1 = r at *
      generalize (Utf8.decode s pos).2 = d at *
      generalize hWW : wr.iterAt w1.heap.size s (pos + d) = W at *
      clear hWW hI hit hbw hdr hdone
      have hlc : (Lib.byteCells (39 :: acc)).length = acc.length + 1 := by rw [Lib.byteCells_length]; simp
      by_cases h39 : r = 39
      · subst h39
        have hq : qrune 39 = [92, 39] := by decide
        have hrc : Lib.runeCells 39 = [.int .u8 39] := by simp [Lib.runeCells, Lib.encodeRuneZ]
        go_wp2_with (go_at_call 109; refine (bld_byte w.heap.size w.heap.size _ 92 _ hI2 (by simp only [List.length_append, hlc, List.length_singleton]; first | omega | (simp; omega)) hsz2).mono ?_)
        rintro e V0 ⟨rfl, h0, b0, k0⟩
        have it0 := k0.iter hit2 (by omega)
        have bw0 := hbw2.trans b0
        have sz0 : w.heap.size ≤ V0.heap.size := bw0.size
        clear k0 b0
        go_wp2_with (go_at_call 110; refine (bld_rune w.heap.size w.heap.size _ 39 (by omega) (by omega) _ h0 (by simp only [List.length_append, hlc, List.length_singleton]; first | omega | (simp; omega)) sz0).mono ?_)
        rintro e V1 ⟨rfl, h1, b1, k1⟩
        have it1 := k1.iter it0 (by omega)
        have bw1 := bw0.trans b1
        have sz1 : w.heap.size ≤ V1.heap.size := bw1.size
        clear k1 b1
        go_wp2
        go_roundw
        case rel =>
          refine ⟨pos + d, f, acc ++ [92, 39], ?_, it1, bw1, ?_, by omega, ?_, hle⟩
          · have e : Lib.byteCells (39 :: (acc ++ [92, 39])) = Lib.byteCells (39 :: acc) ++ [.int .u8 92] ++ Lib.runeCells 39 := by rw [hrc, ← List.cons_append, Lib.byteCells_append, List.append_assoc]; rfl
            rw [e]; exact h1
          · rw [← hacc, hq, List.append_assoc]
          · rw [List.length_append]; simp; omega
        case measure =>
          simp only [World.iterPos, it1]
          exact hMeas
      by_cases h92 : r = 92
      · subst h92
        have hq : qrune 92 = [92, 92] := by decide
        have hrc : Lib.runeCells 92 = [.int .u8 92] := by simp [Lib.runeCells, Lib.encodeRuneZ]
        go_wp2_with (go_at_call 109; refine (bld_byte w.heap.size w.heap.size _ 92 _ hI2 (by simp only [List.length_append, hlc, List.length_singleton]; first | omega | (simp; omega)) hsz2).mono ?_)
        rintro e V0 ⟨rfl, h0, b0, k0⟩
        have it0 := k0.iter hit2 (by omega)
        have bw0 := hbw2.trans b0
        have sz0 : w.heap.size ≤ V0.heap.size := bw0.size
        clear k0 b0
        go_wp2_with (go_at_call 110; refine (bld_rune w.heap.size w.heap.size _ 92 (by omega) (by omega) _ h0 (by simp only [List.length_append, hlc, List.length_singleton]; first | omega | (simp; omega)) sz0).mono ?_)
        rintro e V1 ⟨rfl, h1, b1, k1⟩
        have it1 := k1.iter it0 (by omega)
        have bw1 := bw0.trans b1
        have sz1 : w.heap.size ≤ V1.heap.size := bw1.size
        clear k1 b1
        go_wp2
        go_roundw
        case rel =>
          refine ⟨pos + d, f, acc ++ [92, 92], ?_, it1, bw1, ?_, by omega, ?_, hle⟩
          · have e : Lib.byteCells (39 :: (acc ++ [92, 92])) = Lib.byteCells (39 :: acc) ++ [.int .u8 92] ++ Lib.runeCells 92 := by rw [hrc, ← List.cons_append, Lib.byteCells_append, List.append_assoc]; rfl
            rw [e]; exact h1
          · rw [← hacc, hq, List.append_assoc]
          · rw [List.length_append]; simp; omega
        case measure =>
          simp only [World.iterPos, it1]
          exact hMeas
      by_cases h10 : r = 10
      · subst h10
        have hq : qrune 10 = [92, 110] := by decide
        go_wp2_with (go_at_call 49; refine (bld_text w.heap.size w.heap.size _ ⟨#[92, 110]⟩ _ hI2 (by simp only [List.length_append, hlc, show (⟨#[92, 110]⟩ : ByteArray).size = 2 from rfl]; first | omega | (simp; omega)) hsz2).mono ?_)
        rintro e V0 ⟨rfl, h0, b0, k0⟩
        have it0 := k0.iter hit2 (by omega)
        have bw0 := hbw2.trans b0
        have sz0 : w.heap.size ≤ V0.heap.size := bw0.size
        clear k0 b0
        go_wp2
        go_roundw
        case rel =>
          refine ⟨pos + d, f, acc ++ [92, 110], ?_, it0, bw0, ?_, by omega, ?_, hle⟩
          · have e : Lib.byteCells (39 :: (acc ++ [92, 110])) = Lib.byteCells (39 :: acc) ++ Lib.strCells ⟨#[92, 110]⟩ := by rw [← List.cons_append, Lib.byteCells_append]; rfl
            rw [e]; exact h0
          · rw [← hacc, hq, List.append_assoc]
          · rw [List.length_append]; simp; omega
        case measure =>
          simp only [World.iterPos, it0]
          exact hMeas
      have hq : qrune r = Lib.encodeRune r := by unfold qrune; rw [if_neg (by omega), if_neg h10]
      have hln : (Lib.encodeRune (r : Int)).length ≤ 4 := by have := Lib.runeCells_le (r : Int); rw [Lib.runeCells_length] at this; omega
      go_wp2_with (go_at_call 110; refine (bld_rune w.heap.size w.heap.size _ (r : Int) (by omega) (by omega) _ hI2 (by simp only [List.length_append, hlc]; first | omega | (simp; omega)) hsz2).mono ?_)
      rintro e V0 ⟨rfl, h0, b0, k0⟩
      have it0 := k0.iter hit2 (by omega)
      have bw0 := hbw2.trans b0
      have sz0 : w.heap.size ≤ V0.heap.size := bw0.size
      clear k0 b0
      go_wp2
      go_roundw
      case rel =>
        refine ⟨pos + d, f, acc ++ Lib.encodeRune r, ?_, it0, bw0, ?_, by omega, ?_, hle⟩
        · rw [← List.cons_append, Lib.byteCells_append, Lib.byteCells_encodeRune]; exact h0
        · rw [← hacc, hq, List.append_assoc]
        · rw [List.length_append]; have := hln; omega
      case measure =>
        simp only [World.iterPos, it0]
        exact hMeas
    · have hnx : ∀ ty, (Instr.next (.pointer (some ⟨w1.heap.size, 0, none⟩)) true ty).run Tryd.prog wr = _ := fun ty => Lib.run_next_end_at wr w1.heap.size s pos ty hit hp
      have hlc : (Lib.byteCells (39 :: acc)).length = acc.length + 1 := by rw [Lib.byteCells_length]; simp
      have hsz2 : w.heap.size ≤ wr.heap.size := by omega
      go_wp2_with (go_at_call 109; refine (bld_byte w.heap.size w.heap.size _ 39 _ hI (by omega) hsz2).mono ?_)
      rintro e V0 ⟨rfl, h0, b0, k0⟩
      have bw0 := hbw.trans b0
      have h0' : IsB w.heap.size w.heap.size (Lib.byteCells (39 :: acc ++ [39])) V0 := by rw [Lib.byteCells_append]; exact h0
      clear k0 h0
      go_wp2_with (go_at_call 40; refine (bld_string w.heap.size w.heap.size (39 :: acc ++ [39]) _ h0' bw0.size).mono ?_)
      rintro e V1 ⟨rfl, _, b1, _⟩
      go_wp2
      go_ret
      rw [List.drop_eq_nil_of_le (show s.data.toList.length ≤ pos by show s.size ≤ pos; omega), qruneF_nil, List.append_nil] at hacc
      refine ⟨?_, bw0.trans b1⟩
      rw [quoL, ← hacc]
      rfl
end Go.Proofs.YtkchpgjjkckfbaaDoor
