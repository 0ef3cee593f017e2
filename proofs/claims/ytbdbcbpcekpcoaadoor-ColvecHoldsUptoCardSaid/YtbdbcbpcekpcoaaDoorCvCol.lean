/- A column of values, whole: made, told, joined. -/
import Derived.Test.YtbdbcbpcekpcoaaDoorCvCat
import Derived.Test.YtbdbcbpcekpcoaaDoorCvOfE
set_option linter.unusedVariables false
set_option linter.unusedSimpArgs false
namespace Go.Proofs.YtbdbcbpcekpcoaaDoor
open Go.RowKit Go.Maps

/-- A column of values that came in, whole. -/
structure ColOk (W : World) (k : Int) (b : Nat) (vs : List V5) : Prop where
  vec : VecIs W (fun _ => True) b (ofL k vs)
  fits : ∀ v ∈ vs, fitsV k v = true
  num : ∀ v ∈ vs, -9223372036854775808 ≤ v.n ∧ v.n ≤ 9223372036854775807
theorem ColOk.below {W W' : World} {k : Int} {b : Nat} {vs : List V5} (h : ColOk W k b vs) (hb : Below W.heap.size W W') : ColOk W' k b vs := ⟨vecIs_below h.vec hb, h.fits, h.num⟩
theorem of_new (k : Int) (A : Option Addr) (n c : Nat) (w : World) (hk : ¬ (1 ≤ k ∧ k ≤ 6)) :
    Calls Tryd.prog 9 #[.int .i64 k, .slice A n c] w fun e w' => e = .returned (.tuple #[.pointer none, .int .i64 1]) ∧ w' = w := by
  have hn := new_none k w (by omega)
  go_enter Tryd.func9, Tryd.ntmps9
  go_wp2_with (go_at_call 7; refine hn.mono ?_; rintro e W2 ⟨rfl, rfl⟩)
  go_ret2
  exact ⟨rfl, rfl⟩
/-- Of, in one of two ways: a column with all values, or none and an error. -/
theorem of_two (k : Int) (A : Option Addr) (vs : List V5) (c : Nat) (w : World) (hr : ReadsV w A vs) (hN : vs.length ≤ 100000000000) :
    Calls Tryd.prog 9 #[.int .i64 k, .slice A vs.length c] w fun e w' => ((∃ b, e = .returned (.tuple #[.pointer (some ⟨b, 0, none⟩), .int .i64 0]) ∧ (1 ≤ k ∧ k ≤ 6) ∧ ColOk w' k b vs) ∨ (∃ f : Int, e = .returned (.tuple #[.pointer none, .int .i64 f]) ∧ (f != 0) = true)) ∧ Below w.heap.size w w' := by
  by_cases hk : 1 ≤ k ∧ k ≤ 6
  · refine (of_any k A vs c w hk hr (Nat.le_trans hN (room_ge k))).mono ?_
    rintro e w' ⟨⟨hf, he, hV⟩ | ⟨_, he⟩, hb⟩
    · exact ⟨.inl ⟨_, he, hk, vecIs_mono hV (fun _ _ => trivial), hf, hr.num⟩, hb⟩
    · exact ⟨.inr ⟨31, he, rfl⟩, hb⟩
  · refine (of_new k A vs.length c w hk).mono ?_
    rintro e w' ⟨he, rfl⟩
    exact ⟨.inr ⟨1, he, rfl⟩, Below.refl _ _⟩
theorem ColOk.values {W : World} {k : Int} {b : Nat} {vs : List V5} (h : ColOk W k b vs) (hk : 1 ≤ k ∧ k ≤ 6) (hN : vs.length ≤ 100000000000) :
    Calls Tryd.prog 28 #[.pointer (some ⟨b, 0, none⟩)] W fun e w' => ∃ rv us, e = .returned rv ∧ OwnV w' W.heap.size rv us ∧ EqR us vs ∧ (∀ u ∈ us, ∀ a, u.A = some a → W.heap.size ≤ a.block) ∧ Below W.heap.size W w' :=
  values_any k hk _ b (ofL k vs) vs W h.vec (rep_ofL k hk _ vs rfl h.fits) (wf_ofL k hk vs h.fits) h.fits h.num hN
theorem ColOk.concat {W : World} {k : Int} {b b2 : Nat} {vs ms : List V5} (h : ColOk W k b vs) (h2 : ColOk W k b2 ms) (hk : 1 ≤ k ∧ k ≤ 6) (hN : vs.length + ms.length ≤ 100000000000) :
    Calls Tryd.prog 16 #[.pointer (some ⟨b, 0, none⟩), .pointer (some ⟨b2, 0, none⟩)] W fun e w' => ∃ bx us, e = .returned (.tuple #[.pointer (some ⟨bx, 0, none⟩), .int .i64 0]) ∧ EqR us (vs ++ ms) ∧ ColOk w' k bx us ∧ Below W.heap.size W w' := by
  refine (concat_any k hk _ b (ofL k vs) vs _ b2 (ofL k ms) ms W h.vec (rep_ofL k hk _ vs rfl h.fits) (wf_ofL k hk vs h.fits) h.fits h.num h2.vec (rep_ofL k hk _ ms rfl h2.fits) (wf_ofL k hk ms h2.fits) h2.fits h2.num hN).mono ?_
  rintro e w' ⟨bx, us, he, hq, hV, hn, hb⟩
  exact ⟨bx, us, he, hq, ⟨hV, fits_row hq (fun v hv => by
    rcases List.mem_append.1 hv with g | g
    · exact h.fits v g
    · exact h2.fits v g), hn⟩, hb⟩
theorem eqR_trans {us vs ms : List V5} (h : EqR us vs) (h2 : EqR vs ms) : EqR us ms := by
  refine ⟨h.1.trans h2.1, fun i hi => ?_⟩
  obtain ⟨a1, a2, a3, a4, a5⟩ := h.2 i (by have := h2.1; omega)
  obtain ⟨b1, b2, b3, b4, b5⟩ := h2.2 i hi
  exact ⟨a1.trans b1, a2.trans b2, a3.trans b3, a4.trans b4, a5.trans b5⟩
theorem ownV_empty (W : World) : OwnV (W.alloc (.cells #[] 39)) W.heap.size (.slice (some ⟨W.heap.size, 0, none⟩) 0 0) [] :=
  ⟨⟨rfl, .inr ⟨W.heap.size, 0, #[], rfl, Nat.le_refl _, heap_alloc_new W _, Nat.le_refl _, Nat.zero_le _, rfl, rfl⟩⟩, fun u hu => (by cases hu), fun u hu => (by cases hu), fun u hu => (by cases hu)⟩
end Go.Proofs.YtbdbcbpcekpcoaaDoor
