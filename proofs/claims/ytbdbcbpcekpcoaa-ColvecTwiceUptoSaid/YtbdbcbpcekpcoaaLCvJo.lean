/- The walk of the law ColvecJoins. -/
import Derived.Test.YtbdbcbpcekpcoaaCvCat
import Derived.Test.YtbdbcbpcekpcoaaCvOfE
set_option linter.unusedVariables false
set_option linter.unusedSimpArgs false
namespace Go.Proofs.Ytbdbcbpcekpcoaa
open Go.RowKit Go.Maps

/-- A column of values that came in, whole. -/
structure ColOk (W : World) (k : Int) (b : Nat) (vs : List V5) : Prop where
  vec : VecIs W (fun _ => True) b (ofL k vs)
  fits : ∀ v ∈ vs, fitsV k v = true
  num : ∀ v ∈ vs, -9223372036854775808 ≤ v.n ∧ v.n ≤ 9223372036854775807
theorem ColOk.below {W W' : World} {k : Int} {b : Nat} {vs : List V5} (h : ColOk W k b vs) (hb : Below W.heap.size W W') : ColOk W' k b vs := ⟨vecIs_below h.vec hb, h.fits, h.num⟩
theorem of_new (k : Int) (A : Option Addr) (n c : Nat) (w : World) (hk : ¬ (1 ≤ k ∧ k ≤ 6)) :
    Calls Try.prog 12 #[.int .i64 k, .slice A n c] w fun e w' => e = .returned (.tuple #[.pointer none, .int .i64 1]) ∧ w' = w := by
  have hn := new_none k w (by omega)
  go_enter Try.func12, Try.ntmps12
  go_wp2_with (go_at_call 9; refine hn.mono ?_; rintro e W2 ⟨rfl, rfl⟩)
  go_ret2
  exact ⟨rfl, rfl⟩
/-- Of, in one of two ways: a column with all values, or none and an error. -/
theorem of_two (k : Int) (A : Option Addr) (vs : List V5) (c : Nat) (w : World) (hr : ReadsV w A vs) (hN : vs.length ≤ 100000000000) :
    Calls Try.prog 12 #[.int .i64 k, .slice A vs.length c] w fun e w' => ((∃ b, e = .returned (.tuple #[.pointer (some ⟨b, 0, none⟩), .int .i64 0]) ∧ (1 ≤ k ∧ k ≤ 6) ∧ ColOk w' k b vs) ∨ (∃ f : Int, e = .returned (.tuple #[.pointer none, .int .i64 f]) ∧ (f != 0) = true)) ∧ Below w.heap.size w w' := by
  by_cases hk : 1 ≤ k ∧ k ≤ 6
  · refine (of_any k A vs c w hk hr (Nat.le_trans hN (room_ge k))).mono ?_
    rintro e w' ⟨⟨hf, he, hV⟩ | ⟨_, he⟩, hb⟩
    · exact ⟨.inl ⟨_, he, hk, vecIs_mono hV (fun _ _ => trivial), hf, hr.num⟩, hb⟩
    · exact ⟨.inr ⟨31, he, rfl⟩, hb⟩
  · refine (of_new k A vs.length c w hk).mono ?_
    rintro e w' ⟨he, rfl⟩
    exact ⟨.inr ⟨1, he, rfl⟩, Below.refl _ _⟩
theorem ColOk.values {W : World} {k : Int} {b : Nat} {vs : List V5} (h : ColOk W k b vs) (hk : 1 ≤ k ∧ k ≤ 6) (hN : vs.length ≤ 100000000000) :
    Calls Try.prog 23 #[.pointer (some ⟨b, 0, none⟩)] W fun e w' => ∃ rv us, e = .returned rv ∧ OwnV w' W.heap.size rv us ∧ EqR us vs ∧ (∀ u ∈ us, ∀ a, u.A = some a → W.heap.size ≤ a.block) ∧ Below W.heap.size W w' :=
  values_any k hk _ b (ofL k vs) vs W h.vec (rep_ofL k hk _ vs rfl h.fits) (wf_ofL k hk vs h.fits) h.fits h.num hN
theorem ColOk.concat {W : World} {k : Int} {b b2 : Nat} {vs ms : List V5} (h : ColOk W k b vs) (h2 : ColOk W k b2 ms) (hk : 1 ≤ k ∧ k ≤ 6) (hN : vs.length + ms.length ≤ 100000000000) :
    Calls Try.prog 21 #[.pointer (some ⟨b, 0, none⟩), .pointer (some ⟨b2, 0, none⟩)] W fun e w' => ∃ bx us, e = .returned (.tuple #[.pointer (some ⟨bx, 0, none⟩), .int .i64 0]) ∧ EqR us (vs ++ ms) ∧ ColOk w' k bx us ∧ Below W.heap.size W w' := by
  refine (concat_any k hk _ b (ofL k vs) vs _ b2 (ofL k ms) ms W h.vec (rep_ofL k hk _ vs rfl h.fits) (wf_ofL k hk vs h.fits) h.fits h.num h2.vec (rep_ofL k hk _ ms rfl h2.fits) (wf_ofL k hk ms h2.fits) h2.fits h2.num hN).mono ?_
  rintro e w' ⟨bx, us, he, hq, hV, hn, hb⟩
  exact ⟨bx, us, he, hq, ⟨hV, fits_row hq (fun v hv => by
    rcases List.mem_append.1 hv with g | g
    · exact h.fits v g
    · exact h2.fits v g), hn⟩, hb⟩
theorem eqR_trans {us vs ms : List V5} (h : EqR us vs) (h2 : EqR vs ms) : EqR us ms := by
  refine ⟨h.1.trans h2.1, fun i hi => ?_⟩
  obtain ⟨a1, a2, a3, a4, a5⟩ := h.2 i (by have := h2.1; omega)
  obtain ⟨b1, b2, b3, b4, b5⟩ := h2.2 i hi
  exact ⟨a1.trans b1, a2.trans b2, a3.trans b3, a4.trans b4, a5.trans b5⟩
theorem ownV_empty (W : World) : OwnV (W.alloc (.cells #[] 32)) W.heap.size (.slice (some ⟨W.heap.size, 0, none⟩) 0 0) [] :=
  ⟨⟨rfl, .inr ⟨W.heap.size, 0, #[], rfl, Nat.le_refl _, heap_alloc_new W _, Nat.le_refl _, Nat.zero_le _, rfl, rfl⟩⟩, fun u hu => (by cases hu), fun u hu => (by cases hu), fun u hu => (by cases hu)⟩
set_option maxRecDepth 100000 in
set_option maxHeartbeats 3200000 in
theorem joins_walk (k : Int) (A : Option Addr) (vs : List V5) (c : Nat) (B : Option Addr) (ms : List V5) (d : Nat) (w : World) (hr : ReadsV w A vs) (hN : vs.length ≤ 1048576) (hr2 : ReadsV w B ms) (hM : ms.length ≤ 1048576) :
    Calls Try.prog 6 #[.int .i64 k, .slice A vs.length c, .slice B ms.length d] w fun e w' => e = .returned (.bool true) ∧ Below w.heap.size w w' := by
  have hH := head_any w
  have HO1 : Aside0 (∀ W, Below w.heap.size w W → Calls Try.prog 12 #[.int .i64 k, .slice A vs.length c] W fun e w' => ((∃ b, e = .returned (.tuple #[.pointer (some ⟨b, 0, none⟩), .int .i64 0]) ∧ (1 ≤ k ∧ k ≤ 6) ∧ ColOk w' k b vs) ∨ (∃ f : Int, e = .returned (.tuple #[.pointer none, .int .i64 f]) ∧ (f != 0) = true)) ∧ Below W.heap.size W w') := ⟨fun W h => of_two k A vs c W (hr.below h) (by omega)⟩
  have HO2 : Aside0 (∀ W, Below w.heap.size w W → Calls Try.prog 12 #[.int .i64 k, .slice B ms.length d] W fun e w' => ((∃ b, e = .returned (.tuple #[.pointer (some ⟨b, 0, none⟩), .int .i64 0]) ∧ (1 ≤ k ∧ k ≤ 6) ∧ ColOk w' k b ms) ∨ (∃ f : Int, e = .returned (.tuple #[.pointer none, .int .i64 f]) ∧ (f != 0) = true)) ∧ Below W.heap.size W w') := ⟨fun W h => of_two k B ms d W (hr2.below h) (by omega)⟩
  have HR := Aside0.mk (And.intro hr hr2)
  have HNM := Aside0.mk (And.intro hN hM)
  obtain ⟨n, hn⟩ : ∃ n, n = vs.length := ⟨_, rfl⟩
  obtain ⟨m, hm⟩ : ∃ m, m = ms.length := ⟨_, rfl⟩
  have HL := Aside0.mk (And.intro hn hm)
  rw [← hn] at HO1 ⊢
  rw [← hm] at HO2 ⊢
  clear hr hr2 hN hM hn hm
  go_enter Try.func6, Try.ntmps6
  go_wp2_with (go_at_call 8; go_loud (refine hH.mono ?_))
  first
    | (intro e W1 he HB1; subst he)
    | rintro e W1 ⟨rfl, HB1⟩
  have hO1 := HO1.out W1 HB1
  clear hH
  go_wp2_with (go_at_call 12; go_loud (refine hO1.mono ?_))
  rintro e W2 ⟨hc1, hb2⟩
  have HB2 := below_then HB1 hb2
  have hO2 := HO2.out W2 HB2
  clear hO1 hb2 HB1
  rcases hc1 with ⟨b1, rfl, hk, hC1⟩ | ⟨f1, rfl, hf1⟩
  · go_wp2_with (go_at_call 12; go_loud (refine hO2.mono ?_))
    rintro e W3 ⟨hc2, hb3⟩
    have HB3 := below_then HB2 hb3
    rcases hc2 with ⟨b2, rfl, _, hC2⟩ | ⟨f2, rfl, hf2⟩
    · have hC13 := hC1.below hb3
      have hcat := hC13.concat hC2 hk (by have := HNM.out; omega)
      have HK := Aside0.mk hk
      clear hC13 hC2 hC1 hb3 hO2 hk
      go_wp2_with (go_at_call 21; go_loud (refine hcat.mono ?_))
      rintro e W4 ⟨bx, xs, rfl, hq, hC, hb4⟩
      have HB4 := below_then HB3 hb4
      have hval := hC.values HK.out (by have := hq.1; rw [List.length_append] at this; have := HNM.out; omega)
      have HQ := Aside0.mk hq
      clear hcat hC hb4 hq HB3 HB2
      go_wp2_with (first | (go_at_call 23; go_loud (refine hval.mono ?_)) | (at_builtin; trace_state; fail))
      rintro e W5 ⟨rv, us, rfl, hO5, hq5, hlw, hb5⟩
      have HB5 := below_then HB4 hb5
      obtain ⟨A5, c5, rfl, hrd5⟩ := hO5.reads
      have HRD := Aside0.mk hrd5
      have HQ5 := Aside0.mk hq5
      clear hlw hb5 hO5 hrd5 hq5 hval
      have hld : ∀ W : World, Sem.run Try.prog (pure (#[] : Array Value)) W = .ok #[] W := fun _ => rfl
      have hst : ∀ (ad : Addr) (W : World), Sem.run Try.prog (storeCells ad ([] : List Value) 0) W = .ok () W := fun _ _ => rfl
      have hl0 : ∀ (ad : Addr) (W : World), Sem.run Try.prog (loadCellsFrom ad 0 0 #[]) W = .ok #[] W := fun _ _ => rfl
      obtain ⟨W6, hW6⟩ : ∃ W6, W6 = W5.alloc (.cells #[] 32) := ⟨_, rfl⟩
      have HB6 : Below w.heap.size w W6 := by rw [hW6]; exact below_more HB5 _
      have HO6 : Aside0 (OwnV W6 W5.heap.size (.slice (some ⟨W5.heap.size, 0, none⟩) 0 0) []) := ⟨by rw [hW6]; exact ownV_empty W5⟩
      have HRA : Aside0 (ReadsV W6 A vs) := ⟨HR.out.1.below HB6⟩
      have HS65 : Aside0 (W5.heap.size ≤ W6.heap.size ∧ w.heap.size ≤ W5.heap.size) := ⟨by rw [hW6]; simp; exact HB5.size⟩
      have HB56 : Aside0 (Below W5.heap.size W5 W6) := ⟨by rw [hW6]; exact below_more (Below.refl _ _) _⟩
      have HWW := Aside0.mk hW6
      clear hW6
      go_wp2_with (at_builtin; go_loud (refine wpList_step fun K hK => ?_; refine of_if (by rfl) ?_; rw [← HWW.out]; refine append_valsO (W := W6) (.tmp 75) (.tmp 76) rfl W5.heap.size (.slice (some ⟨W5.heap.size, 0, none⟩) 0 0) [] rfl HO6.out HS65.out.1 A vs c ?hx HRA.out ?hap ?hn ?_))
      case hx =>
        show Value.slice A n c = _
        rw [HL.out.1]
      case hap =>
        intro u hu a e hp e2
        have h1 := readsI_lt (e ▸ HR.out.1.path u hu) hp
        have h2 := HS65.out.2
        simp only [Value.ownBlock, Option.some.injEq] at e2
        omega
      case hn =>
        have := HNM.out
        simp only [List.length_nil]
        omega
      intro v7 W7 hO7 hb7
      have HB7 : Below w.heap.size w W7 := HB6.trans (hb7.mono HS65.out.2)
      obtain ⟨A7, c7, rfl, hrd7⟩ := hO7.reads
      have HO7 := Aside0.mk hO7
      have HRB : Aside0 (ReadsV W7 B ms) := ⟨HR.out.2.below HB7⟩
      have HB75 : Aside0 (W5.heap.size ≤ W7.heap.size) := ⟨by have := HS65.out.1; have := hb7.size; omega⟩
      have HB57 : Aside0 (Below W5.heap.size W5 W7) := ⟨HB56.out.trans hb7⟩
      clear hO7 hb7 hrd7 HO6 HRA HB56
      refine hK _ _ ?_
      clear hK K
      go_wp2_with (at_builtin; go_loud (refine wpList_step fun K hK => ?_; refine of_if (by rfl) ?_; refine append_valsO (W := W7) (.tmp 77) (.tmp 78) rfl W5.heap.size (.slice A7 vs.length c7) vs rfl HO7.out HB75.out B ms d ?hx HRB.out ?hap ?hn ?_))
      case hx =>
        show Value.slice B m d = _
        rw [HL.out.2]
      case hap =>
        intro u hu a e hp e2
        have h1 := readsI_lt (e ▸ HR.out.2.path u hu) hp
        have h2 := HS65.out.2
        have h3 := (HO7.out.row.lt a.block e2).1
        omega
      case hn =>
        have := HNM.out
        omega
      intro v8 W8 hO8 hb8
      have HB8 : Below w.heap.size w W8 := HB7.trans (hb8.mono HS65.out.2)
      obtain ⟨A8, c8, rfl, hrd8⟩ := hO8.reads
      have hsr := samerow_any A5 us c5 A8 (vs ++ ms) c8 W8 (HRD.out.below (HB57.out.trans hb8)) hrd8 (eqR_trans HQ5.out HQ.out)
      clear hO8 hb8 hrd8 HO7 HRB HB57 HRD
      have HSR := Aside0.mk hsr
      clear hsr
      refine hK _ _ ?_
      clear hK K
      have hsr := HSR.out
      generalize (vs ++ ms).length = nn at hsr ⊢
      clear HSR
      go_wp2_with (go_at_call 22; go_loud (refine hsr.mono ?_))
      rintro e W9 ⟨rfl, hb9⟩
      have HB9 := below_then HB8 hb9
      clear hsr hb9
      go_wp2
      go_ret
      exact ⟨rfl, HB9⟩
    · go_wp2
      go_ret
      exact ⟨rfl, HB3⟩
  · go_wp2_with (go_at_call 12; go_loud (refine hO2.mono ?_))
    rintro e W3 ⟨hc2, hb3⟩
    have HB3 := below_then HB2 hb3
    rcases hc2 with ⟨b2, rfl, _, hC2⟩ | ⟨f2, rfl, hf2⟩
    · go_wp2
      go_ret
      exact ⟨rfl, HB3⟩
    · go_wp2
      go_ret
      exact ⟨rfl, HB3⟩
end Go.Proofs.Ytbdbcbpcekpcoaa
