/- What a text reads as between quotes, rune by rune and byte by byte: no program in sight. -/
import Derived.Test.YtkchpgjjkckfbaaDoorVal0
import Derived.Lib.RuneBytes
import Derived.Lib.MapLaws
import Derived.Lib.ValidLaws
set_option linter.unusedVariables false
set_option linter.unusedSimpArgs false
namespace Go.Proofs.YtkchpgjjkckfbaaDoor
open Go.RowKit

/-- What stands for a rune between quotes. -/
def qrune (r : Nat) : List UInt8 := if r = 39 ∨ r = 92 then 92 :: Lib.encodeRune r else if r = 10 then [92, 110] else Lib.encodeRune r
def qruneF : Nat → List UInt8 → List UInt8
  | 0, _ => []
  | f + 1, l => if l = [] then [] else qrune (Lib.decodeL l).1 ++ qruneF f (l.drop (Lib.decodeL l).2)
/-- What stands for a byte between quotes. -/
def qbyte (b : UInt8) : List UInt8 := if b = 39 ∨ b = 92 then [92, b] else if b = 10 then [92, 110] else [b]
def qtext : List UInt8 → List UInt8
  | [] => []
  | b :: t => qbyte b ++ qtext t
theorem qtext_append : ∀ a b, qtext (a ++ b) = qtext a ++ qtext b
  | [], b => rfl
  | x :: a, b => by simp [qtext, qtext_append a b]
theorem qtext_length : ∀ l, (qtext l).length ≤ 2 * l.length
  | [] => by simp [qtext]
  | x :: a => by
    have := qtext_length a
    have h : (qbyte x).length ≤ 2 := by unfold qbyte; repeat' split
                                        all_goals simp
    simp [qtext]
    omega
theorem qtext_high : ∀ l : List UInt8, (∀ x ∈ l, 128 ≤ x.toNat) → qtext l = l
  | [], _ => rfl
  | x :: t, h => by
    have hx := h x (by simp)
    have e : qbyte x = [x] := by
      unfold qbyte
      rw [if_neg, if_neg]
      · rintro rfl; exact absurd hx (by decide)
      · rintro (rfl | rfl) <;> exact absurd hx (by decide)
    rw [qtext, e, qtext_high t (fun y hy => h y (by simp [hy]))]
    rfl
theorem encode_high (r : Int) (h : 128 ≤ r) : ∀ x ∈ Lib.encodeRune r, 128 ≤ x.toNat := by
  have hz : ∀ x ∈ Lib.encodeRuneZ r, 128 ≤ x ∧ x < 256 := by
    intro x hx
    have hb := Lib.encodeRuneZ_byte r x hx
    refine ⟨?_, hb.2⟩
    clear hb
    unfold Lib.encodeRuneZ at hx
    split at hx
    · omega
    split at hx
    · simp at hx; omega
    split at hx
    · simp at hx; omega
    split at hx
    · simp at hx; omega
    · simp at hx; omega
  intro x hx
  simp only [Lib.encodeRune, List.mem_map] at hx
  obtain ⟨y, hy, rfl⟩ := hx
  have := hz y hy
  show 128 ≤ (UInt8.ofNat y.toNat).toNat
  rw [UInt8.toNat_ofNat']
  omega
theorem encode_low (b : UInt8) (h : b.toNat < 128) : Lib.encodeRune ((b.toNat : Nat) : Int) = [b] := by
  simp only [Lib.encodeRune, Lib.encodeRuneZ_one (show (0 : Int) ≤ ((b.toNat : Nat) : Int) by omega) (show ((b.toNat : Nat) : Int) ≤ 127 by omega)]
  simp
theorem decodeL_high (b : UInt8) (t : List UInt8) (h : ¬ b.toNat < 128) : 128 ≤ (Lib.decodeL (b :: t)).1 := by
  have := decode_high ⟨(b :: t).toArray⟩ 0 (by show 0 < (b :: t).toArray.size; simp) (by show 128 ≤ b.toNat; omega)
  exact this.1
/-- OF WHAT IS UTF-8 the two are the same. -/
theorem qrune_text : ∀ (f : Nat) (l : List UInt8), l.length ≤ f → Lib.validD l = true → qruneF f l = qtext l
  | 0, l, hl, _ => by
    obtain rfl : l = [] := List.length_eq_zero_iff.1 (by omega)
    rfl
  | f + 1, [], _, _ => rfl
  | f + 1, b :: t, hl, hv => by
    have hne : (b :: t) ≠ [] := by simp
    rw [Lib.validD_step _ hne] at hv
    by_cases hbad : (Lib.decodeL (b :: t)).1 = 65533 ∧ (Lib.decodeL (b :: t)).2 = 1
    · rw [if_pos hbad] at hv; cases hv
    rw [if_neg hbad] at hv
    have hw := Lib.decodeL_width (b :: t)
    rw [qruneF, if_neg hne, qrune_text f _ (by rw [List.length_drop]; simp at hl ⊢; omega) hv]
    by_cases hlow : b.toNat < 128
    · rw [Lib.decodeL_ascii b t hlow]
      simp only [List.drop_succ_cons, List.drop_zero, qtext]
      congr 1
      unfold qrune qbyte
      rw [encode_low b hlow]
      have e1 : (b.toNat = 39 ∨ b.toNat = 92) ↔ (b = 39 ∨ b = 92) := by
        constructor
        · rintro (h | h)
          · exact .inl (UInt8.toNat.inj h)
          · exact .inr (UInt8.toNat.inj h)
        · rintro (rfl | rfl)
          · exact .inl rfl
          · exact .inr rfl
      have e2 : b.toNat = 10 ↔ b = 10 := ⟨fun h => UInt8.toNat.inj h, fun h => by rw [h]; rfl⟩
      simp only [e1, e2]
    · have hhi := decodeL_high b t hlow
      have he := Lib.encode_decode (b :: t) hne hbad
      have hq : qrune (Lib.decodeL (b :: t)).1 = (b :: t).take (Lib.decodeL (b :: t)).2 := by
        unfold qrune
        rw [if_neg (by omega), if_neg (by omega), he]
      have hh : ∀ x ∈ (b :: t).take (Lib.decodeL (b :: t)).2, 128 ≤ x.toNat := by
        rw [← he]
        exact encode_high _ (by omega)
      rw [hq]
      conv => rhs; rw [← List.take_append_drop (Lib.decodeL (b :: t)).2 (b :: t)]
      rw [qtext_append, qtext_high _ hh]
end Go.Proofs.YtkchpgjjkckfbaaDoor
