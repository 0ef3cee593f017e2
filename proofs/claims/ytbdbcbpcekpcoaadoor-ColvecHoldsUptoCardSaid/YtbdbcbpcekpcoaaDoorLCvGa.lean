/- The walk of the law ColvecGathers. -/
import Derived.Test.YtbdbcbpcekpcoaaDoorCvSm
set_option linter.unusedVariables false
set_option linter.unusedSimpArgs false
namespace Go.Proofs.YtbdbcbpcekpcoaaDoor
open Go.RowKit Go.Maps

/-- May a column of kind k be made of these values? -/
def Takes (k : Int) (vs : List V5) : Prop := (1 ≤ k ∧ k ≤ 6) ∧ ∀ v ∈ vs, fitsV k v = true
theorem pof_ok (k : Int) (A : Option Addr) (vs : List V5) (c : Nat) (w : World) (hC : Takes k vs) (hr : ReadsV w A vs) (hN : vs.length ≤ 100000000) :
    Calls Tryd.prog 9 #[.int .i64 k, .slice A vs.length c] w fun e w' => e = .returned (.tuple #[.pointer (some ⟨w.heap.size + 1, 0, none⟩), .int .i64 0]) ∧ ColOk w' k (w.heap.size + 1) vs ∧ Below w.heap.size w w' := by
  refine (of_ok k A vs c w hC.1 hr (Nat.le_trans (by omega) (room_ge k)) hC.2 (fun v _ => appOk_any k hC.1 v)).mono ?_
  rintro e w' ⟨he, hV, hb⟩
  exact ⟨he, ⟨vecIs_mono hV (fun _ _ => trivial), hC.2, hr.num⟩, hb⟩
theorem pof_no (k : Int) (A : Option Addr) (vs : List V5) (c : Nat) (w : World) (hC : ¬ Takes k vs) (hr : ReadsV w A vs) (hN : vs.length ≤ 100000000) :
    Calls Tryd.prog 9 #[.int .i64 k, .slice A vs.length c] w fun e w' => e = .returned (.tuple #[.pointer none, .int .i64 (if 1 ≤ k ∧ k ≤ 6 then 31 else 1)]) ∧ Below w.heap.size w w' := by
  by_cases hk : 1 ≤ k ∧ k ≤ 6
  · rw [if_pos hk]
    refine (of_any k A vs c w hk hr (Nat.le_trans (by omega) (room_ge k))).mono ?_
    rintro e w' ⟨⟨hf, _⟩ | ⟨_, he⟩, hb⟩
    · exact absurd ⟨hk, hf⟩ hC
    · exact ⟨he, hb⟩
  · rw [if_neg hk]
    refine (of_new k A vs.length c w hk).mono ?_
    rintro e w' ⟨he, rfl⟩
    exact ⟨he, Below.refl _ _⟩
theorem rof_okT (k : Int) (A : Option Addr) (vs : List V5) (c : Nat) (w : World) (hC : Takes k vs) (hr : ReadsV w A vs) (hT : Lib.Utf8Tabs 0 1 w) (hss : ∀ v ∈ vs, v.s.size ≤ 9223372036854775807) (hN : vs.length ≤ 100000000) :
    Calls Tryd.prog 10 #[.int .i64 k, .slice A vs.length c] w fun e w' => e = .returned (.tuple #[.pointer (some ⟨w.heap.size, 0, none⟩), .int .i64 0]) ∧ (∃ A' c', RVec w' k w.heap.size A' c' vs) ∧ Below w.heap.size w w' := by
  refine (rof_ok k A vs c w hC.1 hr hT hss (by omega) hC.2).mono ?_
  rintro e w' ⟨he, ⟨rv, hV⟩, hb⟩
  obtain ⟨A', c', h⟩ := hV.vec
  exact ⟨he, ⟨A', c', h⟩, hb⟩
theorem rof_noT (k : Int) (A : Option Addr) (vs : List V5) (c : Nat) (w : World) (hC : ¬ Takes k vs) (hr : ReadsV w A vs) (hT : Lib.Utf8Tabs 0 1 w) (hss : ∀ v ∈ vs, v.s.size ≤ 9223372036854775807) (hN : vs.length ≤ 100000000) :
    Calls Tryd.prog 10 #[.int .i64 k, .slice A vs.length c] w fun e w' => e = .returned (.tuple #[.pointer none, .int .i64 (if 1 ≤ k ∧ k ≤ 6 then 31 else 1)]) ∧ Below w.heap.size w w' := by
  refine (rof_any k A vs c w hr hT hss (by omega)).mono ?_
  rintro e w' ⟨⟨hk, hf, _⟩ | ⟨_, he⟩, hb⟩
  · exact absurd ⟨hk, hf⟩ hC
  · exact ⟨he, hb⟩
theorem ColOk.gatherErr {W : World} {k : Int} {b : Nat} {vs : List V5} (h : ColOk W k b vs) (hk : 1 ≤ k ∧ k ≤ 6) (hN : vs.length ≤ 100000000) (A : Option Addr) (pl : List Int) (c : Nat) (hr : ReadsI W A pl) (Q : Nat) (hin : Lead pl vs.length Q) (hQ : Q < pl.length) (hpl : pl.length ≤ 100000000) :
    Calls Tryd.prog 14 #[.pointer (some ⟨b, 0, none⟩), .slice A pl.length c] W fun e w' => e = .returned (.tuple #[.pointer none, .int .i64 32]) ∧ Below W.heap.size W w' := by
  refine (gather_any k hk _ b (ofL k vs) vs W h.vec (rep_ofL k hk _ vs rfl h.fits) (wf_ofL k hk vs h.fits) h.fits h.num (by omega) A pl c hr Q hin (by omega)).mono ?_
  rintro e w' ⟨⟨he, _⟩ | ⟨_, he⟩, hb⟩
  · omega
  · exact ⟨he, hb⟩
theorem RVec.gatherErr {W : World} {k : Int} {rb : Nat} {A : Option Addr} {c : Nat} {us : List V5} (h : RVec W k rb A c us) (hN : us.length ≤ 100000000) (PA : Option Addr) (pl : List Int) (d : Nat) (hr : ReadsI W PA pl) (Q : Nat) (hin : Lead pl us.length Q) (hQ : Q < pl.length) (hpl : pl.length ≤ 100000000) :
    Calls Tryd.prog 15 #[.pointer (some ⟨rb, 0, none⟩), .slice PA pl.length d] W fun e w' => e = .returned (.tuple #[.pointer none, .int .i64 32]) ∧ Below W.heap.size W w' := by
  refine (rgather_any k rb A c us W h (by omega) PA pl d hr Q hin (by omega)).mono ?_
  rintro e w' ⟨⟨he, _⟩ | ⟨_, he⟩, hb⟩
  · omega
  · exact ⟨he, hb⟩
theorem RVec.gatherOk {W : World} {k : Int} {rb : Nat} {A : Option Addr} {c : Nat} {us : List V5} (h : RVec W k rb A c us) (hN : us.length ≤ 100000000) (PA : Option Addr) (pl : List Int) (d : Nat) (hr : ReadsI W PA pl) (Q : Nat) (hin : Lead pl us.length Q) (hQ : Q = pl.length) (hpl : pl.length ≤ 100000000) :
    Calls Tryd.prog 15 #[.pointer (some ⟨rb, 0, none⟩), .slice PA pl.length d] W fun e w' => e = .returned (.tuple #[.pointer (some ⟨W.heap.size, 0, none⟩), .int .i64 0]) ∧ (∃ A' c', RVec w' k W.heap.size A' c' (pl.map fun i => us.getD i.toNat V5.zero)) ∧ Below W.heap.size W w' := by
  refine (rgather_any k rb A c us W h (by omega) PA pl d hr Q hin (by omega)).mono ?_
  rintro e w' ⟨⟨_, he, ⟨rv, hV⟩⟩ | ⟨h2, _⟩, hb⟩
  · obtain ⟨A', c', h⟩ := hV.vec
    exact ⟨he, ⟨A', c', h⟩, hb⟩
  · omega
/-- The program's Gather where all places are. -/
theorem ColOk.gatherOk {W : World} {k : Int} {b : Nat} {vs : List V5} (h : ColOk W k b vs) (hk : 1 ≤ k ∧ k ≤ 6) (hN : vs.length ≤ 100000000) (A : Option Addr) (pl : List Int) (c : Nat) (hr : ReadsI W A pl) (Q : Nat) (hin : Lead pl vs.length Q) (hQ : Q = pl.length) (hpl : pl.length ≤ 100000000) :
    Calls Tryd.prog 14 #[.pointer (some ⟨b, 0, none⟩), .slice A pl.length c] W fun e w' => e = .returned (.tuple #[.pointer (some ⟨W.heap.size + 1, 0, none⟩), .int .i64 0]) ∧ (∃ us, EqR us (pl.map fun i => vs.getD i.toNat V5.zero) ∧ ColOk w' k (W.heap.size + 1) us) ∧ Below W.heap.size W w' := by
  refine (gather_any k hk _ b (ofL k vs) vs W h.vec (rep_ofL k hk _ vs rfl h.fits) (wf_ofL k hk vs h.fits) h.fits h.num (by omega) A pl c hr Q hin (by omega)).mono ?_
  rintro e w' ⟨⟨_, us, he, hq, hV, hf, hn⟩ | ⟨h2, _⟩, hb⟩
  · exact ⟨he, ⟨us, hq, vecIs_mono hV (fun _ _ => trivial), hf, hn⟩, hb⟩
  · omega
theorem ColOk.concatOk {W : World} {k : Int} {b b2 : Nat} {vs ms : List V5} (h : ColOk W k b vs) (h2 : ColOk W k b2 ms) (hk : 1 ≤ k ∧ k ≤ 6) (hN : vs.length + ms.length ≤ 100000000) :
    Calls Tryd.prog 16 #[.pointer (some ⟨b, 0, none⟩), .pointer (some ⟨b2, 0, none⟩)] W fun e w' => (∃ bx, e = .returned (.tuple #[.pointer (some ⟨bx, 0, none⟩), .int .i64 0]) ∧ Aside0 (∃ us, EqR us (vs ++ ms) ∧ ColOk w' k bx us)) ∧ Below W.heap.size W w' := by
  refine (h.concat h2 hk (by omega)).mono ?_
  rintro e w' ⟨bx, us, he, hq, hC, hb⟩
  exact ⟨⟨bx, he, ⟨us, hq, hC⟩⟩, hb⟩
theorem RVec.concatOk {W : World} {k : Int} {rb rb2 : Nat} {A A2 : Option Addr} {c c2 : Nat} {us ms : List V5} (h : RVec W k rb A c us) (h2 : RVec W k rb2 A2 c2 ms) (hN : us.length + ms.length ≤ 100000000) :
    Calls Tryd.prog 17 #[.pointer (some ⟨rb, 0, none⟩), .pointer (some ⟨rb2, 0, none⟩)] W fun e w' => (∃ nb, e = .returned (.tuple #[.pointer (some ⟨nb, 0, none⟩), .int .i64 0]) ∧ Aside0 (∃ A' c', RVec w' k nb A' c' (us ++ ms))) ∧ Below W.heap.size W w' := by
  refine (rconcat_ok k rb rb2 A A2 c c2 us ms W h h2 (by omega)).mono ?_
  rintro e w' ⟨nb, A', c', he, hV, hb⟩
  exact ⟨⟨nb, he, ⟨A', c', hV⟩⟩, hb⟩
theorem same_nilB (w : World) : Calls Tryd.prog 11 #[.pointer none, .pointer none] w fun e w' => e = .returned (.bool true) ∧ Below w.heap.size w w' := by
  refine (same_nil w).mono ?_
  rintro e w' ⟨he, rfl⟩
  exact ⟨he, Below.refl _ _⟩
theorem rconcat_nilB (p : Value) (w : World) (v : Option Addr) (hp : p = .pointer v) :
    Calls Tryd.prog 17 #[p, .pointer none] w fun e w' => e = .returned (.tuple #[.pointer none, .int .i64 1]) ∧ Below w.heap.size w w' := by
  refine (rconcat_nil p w v hp).mono ?_
  rintro e w' ⟨he, rfl⟩
  exact ⟨he, Below.refl _ _⟩
theorem concat_nilB (p : Value) (w : World) (v : Option Addr) (hp : p = .pointer v) :
    Calls Tryd.prog 16 #[p, .pointer none] w fun e w' => e = .returned (.tuple #[.pointer none, .int .i64 1]) ∧ Below w.heap.size w w' := by
  refine (concat_nil p w v hp).mono ?_
  rintro e w' ⟨he, rfl⟩
  exact ⟨he, Below.refl _ _⟩
theorem map_len (vs : List V5) (pl : List Int) : (pl.map fun i => vs.getD i.toNat V5.zero).length = pl.length := List.length_map _
set_option maxRecDepth 100000 in
set_option maxHeartbeats 6400000 in
theorem gathers_walk (k : Int) (A : Option Addr) (vs : List V5) (c : Nat) (PA : Option Addr) (pl : List Int) (d : Nat) (k2 : Int) (B : Option Addr) (ms : List V5) (c2 : Nat) (w : World) (hr : ReadsV w A vs) (hN : vs.length ≤ 1048576) (hss : ∀ v ∈ vs, v.s.size ≤ 9223372036854775807) (hp : ReadsI w PA pl) (hpl : pl.length ≤ 1048576) (hr2 : ReadsV w B ms) (hM : ms.length ≤ 1048576) (hss2 : ∀ v ∈ ms, v.s.size ≤ 9223372036854775807) (hT : Lib.Utf8Tabs 0 1 w) :
    Calls Tryd.prog 4 #[.int .i64 k, .slice A vs.length c, .slice PA pl.length d, .int .i64 k2, .slice B ms.length c2] w fun e w' => e = .returned (.bool true) ∧ Below w.heap.size w w' := by
  have hH := head_any w
  obtain ⟨Q, hL⟩ := lead pl vs.length
  have HL := Aside0.mk hL
  have HS := Aside0.mk (And.intro hss hss2)
  have HNN := Aside0.mk (And.intro hN (And.intro hpl hM))
  have RL0 := Aside0.mk hr
  have RM0 := Aside0.mk hr2
  have RP0 := Aside0.mk hp
  have TT0 := Aside0.mk hT
  have BB0 : Aside0 (Below w.heap.size w w) := ⟨Below.refl _ _⟩
  have BB := BB0
  obtain ⟨n, hn⟩ : ∃ n, n = vs.length := ⟨_, rfl⟩
  obtain ⟨m, hm⟩ : ∃ m, m = pl.length := ⟨_, rfl⟩
  obtain ⟨n2, hn2⟩ : ∃ n2, n2 = ms.length := ⟨_, rfl⟩
  have HE := Aside0.mk (And.intro hn (And.intro hm hn2))
  rw [← hn, ← hm, ← hn2]
  clear hr hr2 hp hT hss hss2 hN hpl hM hL hn hm hn2
  go_enter Tryd.func4, Tryd.ntmps4
  have HCL := Aside0.mk hH
  clear hH
  go_wp2_with (go_at_call 5; go_loud (refine HCL.out.mono ?_))
  first
    | (intro e V1 he hb; subst he)
    | rintro e V1 ⟨rfl, hb⟩
  have RL1 := Aside0.mk (RL0.out.below hb)
  have RM1 := Aside0.mk (RM0.out.below hb)
  have RP1 := Aside0.mk (RP0.out.below hb)
  have TT1 := Aside0.mk (Utf8Tabs_below TT0.out hb)
  have BB1 := Aside0.mk hb
  clear HCL hb BB0 BB RL0 RM0 RP0 TT0
  by_cases hC : Takes k vs
  · skip
    have HC := Aside0.mk hC
    clear hC
    have HCL := Aside0.mk (pof_ok k A vs c V1 HC.out RL1.out (by have := HNN.out; omega))
    rw [← HE.out.1] at HCL
    go_wp2_with (go_at_call 9; go_loud (refine HCL.out.mono ?_))
    rintro e V2 ⟨rfl, hCo, hb⟩
    have RL2 := Aside0.mk (RL1.out.below hb)
    have RM2 := Aside0.mk (RM1.out.below hb)
    have RP2 := Aside0.mk (RP1.out.below hb)
    have TT2 := Aside0.mk (Utf8Tabs_below TT1.out hb)
    have BB2 := Aside0.mk (below_then BB1.out hb)
    clear HCL hb RL1 RM1 RP1 TT1 BB1
    have CV2 := Aside0.mk hCo
    clear hCo
    have HCL := Aside0.mk (rof_okT k A vs c V2 HC.out RL2.out TT2.out HS.out.1 (by have := HNN.out; omega))
    rw [← HE.out.1] at HCL
    go_wp2_with (go_at_call 10; go_loud (refine HCL.out.mono ?_))
    rintro e V3 ⟨rfl, ⟨Ar, cr, hRo⟩, hb⟩
    have RL3 := Aside0.mk (RL2.out.below hb)
    have RM3 := Aside0.mk (RM2.out.below hb)
    have RP3 := Aside0.mk (RP2.out.below hb)
    have TT3 := Aside0.mk (Utf8Tabs_below TT2.out hb)
    have CV3 := Aside0.mk (CV2.out.below hb)
    have BB3 := Aside0.mk (below_then BB2.out hb)
    clear HCL hb RL2 RM2 RP2 TT2 CV2 BB2
    have RV3 := Aside0.mk hRo
    clear hRo
    generalize V1.heap.size + 1 = bv at CV3 ⊢
    generalize V2.heap.size = br at RV3 ⊢
    by_cases hQ : Q = m
    · skip
      have HQ := Aside0.mk (hQ.trans HE.out.2.1)
      clear hQ
      have HCL := Aside0.mk (CV3.out.gatherOk HC.out.1 (by have := HNN.out; omega) PA pl d RP3.out Q HL.out HQ.out (by have := HNN.out; omega))
      rw [← HE.out.2.1] at HCL
      go_wp2_with (go_at_call 14; go_loud (refine HCL.out.mono ?_))
      rintro e V4 ⟨rfl, ⟨gs, hqg, hCg⟩, hb⟩
      have RL4 := Aside0.mk (RL3.out.below hb)
      have RM4 := Aside0.mk (RM3.out.below hb)
      have RP4 := Aside0.mk (RP3.out.below hb)
      have TT4 := Aside0.mk (Utf8Tabs_below TT3.out hb)
      have CV4 := Aside0.mk (CV3.out.below hb)
      have RV4 := Aside0.mk (RV3.out.below hb)
      have BB4 := Aside0.mk (below_then BB3.out hb)
      clear HCL hb RL3 RM3 RP3 TT3 CV3 RV3 BB3
      have CG4 := Aside0.mk hCg
      have QG := Aside0.mk hqg
      clear hqg hCg
      have HCL := Aside0.mk (RV4.out.gatherOk (by have := HNN.out; omega) PA pl d RP4.out Q HL.out HQ.out (by have := HNN.out; omega))
      rw [← HE.out.2.1] at HCL
      go_wp2_with (go_at_call 15; go_loud (refine HCL.out.mono ?_))
      rintro e V5 ⟨rfl, ⟨Ag, cg, hRg⟩, hb⟩
      have RL5 := Aside0.mk (RL4.out.below hb)
      have RM5 := Aside0.mk (RM4.out.below hb)
      have RP5 := Aside0.mk (RP4.out.below hb)
      have TT5 := Aside0.mk (Utf8Tabs_below TT4.out hb)
      have CV5 := Aside0.mk (CV4.out.below hb)
      have RV5 := Aside0.mk (RV4.out.below hb)
      have CG5 := Aside0.mk (CG4.out.below hb)
      have BB5 := Aside0.mk (below_then BB4.out hb)
      clear HCL hb RL4 RM4 RP4 TT4 CV4 RV4 CG4 BB4
      have RH5 := Aside0.mk hRg
      clear hRg
      generalize V3.heap.size + 1 = bg at CG5 ⊢
      generalize V4.heap.size = bh at RH5 ⊢
      have HCL := Aside0.mk (same_ok k HC.out.1 bg bh Ag cg _ gs V5 CG5.out RH5.out QG.out (by rw [List.length_map]; have := HNN.out; omega))
      go_wp2_with (go_at_call 11; go_loud (refine HCL.out.mono ?_))
      rintro e V6 ⟨rfl, hb⟩
      have RL6 := Aside0.mk (RL5.out.below hb)
      have RM6 := Aside0.mk (RM5.out.below hb)
      have RP6 := Aside0.mk (RP5.out.below hb)
      have TT6 := Aside0.mk (Utf8Tabs_below TT5.out hb)
      have CV6 := Aside0.mk (CV5.out.below hb)
      have RV6 := Aside0.mk (RV5.out.below hb)
      have CG6 := Aside0.mk (CG5.out.below hb)
      have RH6 := Aside0.mk (RH5.out.below hb)
      have BB6 := Aside0.mk (below_then BB5.out hb)
      clear HCL hb RL5 RM5 RP5 TT5 CV5 RV5 CG5 RH5 BB5
      clear CG6 RH6
      by_cases hC2 : Takes k2 ms
      · skip
        have HC2 := Aside0.mk hC2
        clear hC2
        have HCL := Aside0.mk (pof_ok k2 B ms c2 V6 HC2.out RM6.out (by have := HNN.out; omega))
        rw [← HE.out.2.2] at HCL
        go_wp2_with (go_at_call 9; go_loud (refine HCL.out.mono ?_))
        rintro e V7 ⟨rfl, hCo, hb⟩
        have RL7 := Aside0.mk (RL6.out.below hb)
        have RM7 := Aside0.mk (RM6.out.below hb)
        have RP7 := Aside0.mk (RP6.out.below hb)
        have TT7 := Aside0.mk (Utf8Tabs_below TT6.out hb)
        have CV7 := Aside0.mk (CV6.out.below hb)
        have RV7 := Aside0.mk (RV6.out.below hb)
        have BB7 := Aside0.mk (below_then BB6.out hb)
        clear HCL hb RL6 RM6 RP6 TT6 CV6 RV6 BB6
        have CX7 := Aside0.mk hCo
        clear hCo
        have HCL := Aside0.mk (rof_okT k2 B ms c2 V7 HC2.out RM7.out TT7.out HS.out.2 (by have := HNN.out; omega))
        rw [← HE.out.2.2] at HCL
        go_wp2_with (go_at_call 10; go_loud (refine HCL.out.mono ?_))
        rintro e V8 ⟨rfl, ⟨Ay, cy, hRo⟩, hb⟩
        have RL8 := Aside0.mk (RL7.out.below hb)
        have RM8 := Aside0.mk (RM7.out.below hb)
        have RP8 := Aside0.mk (RP7.out.below hb)
        have TT8 := Aside0.mk (Utf8Tabs_below TT7.out hb)
        have CV8 := Aside0.mk (CV7.out.below hb)
        have RV8 := Aside0.mk (RV7.out.below hb)
        have CX8 := Aside0.mk (CX7.out.below hb)
        have BB8 := Aside0.mk (below_then BB7.out hb)
        clear HCL hb RL7 RM7 RP7 TT7 CV7 RV7 CX7 BB7
        have RY8 := Aside0.mk hRo
        clear hRo
        generalize V6.heap.size + 1 = bx at CX8 ⊢
        generalize V7.heap.size = by_ at RY8 ⊢
        by_cases hkk : k2 = k
        · skip
          subst hkk
          have HCL := Aside0.mk (CV8.out.concatOk CX8.out HC.out.1 (by have := HNN.out; omega))
          go_wp2_with (go_at_call 16; go_loud (refine HCL.out.mono ?_))
          first
            | (intro e V9 h; have h : (∃ (bx : Nat), _) ∧ _ := h; obtain ⟨⟨bc, he, hU⟩, hb⟩ := h; subst he)
            | (intro e V9 bc he hU hb; subst he)
          have RL9 := Aside0.mk (RL8.out.below hb)
          have RM9 := Aside0.mk (RM8.out.below hb)
          have RP9 := Aside0.mk (RP8.out.below hb)
          have TT9 := Aside0.mk (Utf8Tabs_below TT8.out hb)
          have CV9 := Aside0.mk (CV8.out.below hb)
          have RV9 := Aside0.mk (RV8.out.below hb)
          have CX9 := Aside0.mk (CX8.out.below hb)
          have RY9 := Aside0.mk (RY8.out.below hb)
          have BB9 := Aside0.mk (below_then BB8.out hb)
          clear HCL hb RL8 RM8 RP8 TT8 CV8 RV8 CX8 RY8 BB8
          obtain ⟨cs, hqc, hCc⟩ := hU.out
          have CC9 := Aside0.mk hCc
          have QC := Aside0.mk hqc
          clear hU hqc hCc
          have HCL := Aside0.mk (RV9.out.concatOk RY9.out (by have := HNN.out; omega))
          go_wp2_with (go_at_call 17; go_loud (refine HCL.out.mono ?_))
          first
            | (intro e V10 h; have h : (∃ (bx : Nat), _) ∧ _ := h; obtain ⟨⟨bd, he, hU⟩, hb⟩ := h; subst he)
            | (intro e V10 bd he hU hb; subst he)
          have RL10 := Aside0.mk (RL9.out.below hb)
          have RM10 := Aside0.mk (RM9.out.below hb)
          have RP10 := Aside0.mk (RP9.out.below hb)
          have TT10 := Aside0.mk (Utf8Tabs_below TT9.out hb)
          have CV10 := Aside0.mk (CV9.out.below hb)
          have RV10 := Aside0.mk (RV9.out.below hb)
          have CX10 := Aside0.mk (CX9.out.below hb)
          have RY10 := Aside0.mk (RY9.out.below hb)
          have CC10 := Aside0.mk (CC9.out.below hb)
          have BB10 := Aside0.mk (below_then BB9.out hb)
          clear HCL hb RL9 RM9 RP9 TT9 CV9 RV9 CX9 RY9 CC9 BB9
          obtain ⟨Ad, cd, hRd⟩ := hU.out
          have RD10 := Aside0.mk hRd
          clear hU hRd
          have HCL := Aside0.mk (same_ok k2 HC.out.1 bc bd Ad cd (vs ++ ms) cs V10 CC10.out RD10.out QC.out (by rw [List.length_append]; have := HNN.out; omega))
          go_wp2_with (go_at_call 11; go_loud (refine HCL.out.mono ?_))
          rintro e V11 ⟨rfl, hb⟩
          have RL11 := Aside0.mk (RL10.out.below hb)
          have RM11 := Aside0.mk (RM10.out.below hb)
          have RP11 := Aside0.mk (RP10.out.below hb)
          have TT11 := Aside0.mk (Utf8Tabs_below TT10.out hb)
          have CV11 := Aside0.mk (CV10.out.below hb)
          have RV11 := Aside0.mk (RV10.out.below hb)
          have CX11 := Aside0.mk (CX10.out.below hb)
          have RY11 := Aside0.mk (RY10.out.below hb)
          have CC11 := Aside0.mk (CC10.out.below hb)
          have RD11 := Aside0.mk (RD10.out.below hb)
          have BB11 := Aside0.mk (below_then BB10.out hb)
          clear HCL hb RL10 RM10 RP10 TT10 CV10 RV10 CX10 RY10 CC10 RD10 BB10
          have HCL := Aside0.mk (same_ok k2 HC.out.1 bx by_ Ay cy ms ms V11 CX11.out RY11.out ⟨rfl, fun _ _ => ⟨rfl, rfl, rfl, rfl, rfl⟩⟩ (by have := HNN.out; omega))
          go_wp2_with (go_at_call 11; go_loud (refine HCL.out.mono ?_))
          rintro e V12 ⟨rfl, hb⟩
          have RL12 := Aside0.mk (RL11.out.below hb)
          have RM12 := Aside0.mk (RM11.out.below hb)
          have RP12 := Aside0.mk (RP11.out.below hb)
          have TT12 := Aside0.mk (Utf8Tabs_below TT11.out hb)
          have CV12 := Aside0.mk (CV11.out.below hb)
          have RV12 := Aside0.mk (RV11.out.below hb)
          have CX12 := Aside0.mk (CX11.out.below hb)
          have RY12 := Aside0.mk (RY11.out.below hb)
          have CC12 := Aside0.mk (CC11.out.below hb)
          have RD12 := Aside0.mk (RD11.out.below hb)
          have BB12 := Aside0.mk (below_then BB11.out hb)
          clear HCL hb RL11 RM11 RP11 TT11 CV11 RV11 CX11 RY11 CC11 RD11 BB11
          have HCL := Aside0.mk (same_ok k2 HC.out.1 bv br Ar cr vs vs V12 CV12.out RV12.out ⟨rfl, fun _ _ => ⟨rfl, rfl, rfl, rfl, rfl⟩⟩ (by have := HNN.out; omega))
          go_wp2_with (go_at_call 11; go_loud (refine HCL.out.mono ?_))
          rintro e V13 ⟨rfl, hb⟩
          have RL13 := Aside0.mk (RL12.out.below hb)
          have RM13 := Aside0.mk (RM12.out.below hb)
          have RP13 := Aside0.mk (RP12.out.below hb)
          have TT13 := Aside0.mk (Utf8Tabs_below TT12.out hb)
          have CV13 := Aside0.mk (CV12.out.below hb)
          have RV13 := Aside0.mk (RV12.out.below hb)
          have CX13 := Aside0.mk (CX12.out.below hb)
          have RY13 := Aside0.mk (RY12.out.below hb)
          have CC13 := Aside0.mk (CC12.out.below hb)
          have RD13 := Aside0.mk (RD12.out.below hb)
          have BB13 := Aside0.mk (below_then BB12.out hb)
          clear HCL hb RL12 RM12 RP12 TT12 CV12 RV12 CX12 RY12 CC12 RD12 BB12
          go_wp2
          go_ret
          exact ⟨rfl, BB13.out⟩
        · skip
          have hk9 : (k2 != k) = true := by simp [hkk]
          clear hkk
          have HCL := Aside0.mk (concat_kind k k2 (fun _ => True) bv bx (ofL k vs) (ofL k2 ms) V8 CV8.out.vec CX8.out.vec (ofL_k _ _) (ofL_k _ _) hk9)
          go_wp2_with (go_at_call 16; go_loud (refine HCL.out.mono ?_))
          rintro e V9 ⟨rfl, hb⟩
          have RL9 := Aside0.mk (RL8.out.below hb)
          have RM9 := Aside0.mk (RM8.out.below hb)
          have RP9 := Aside0.mk (RP8.out.below hb)
          have TT9 := Aside0.mk (Utf8Tabs_below TT8.out hb)
          have CV9 := Aside0.mk (CV8.out.below hb)
          have RV9 := Aside0.mk (RV8.out.below hb)
          have CX9 := Aside0.mk (CX8.out.below hb)
          have RY9 := Aside0.mk (RY8.out.below hb)
          have BB9 := Aside0.mk (below_then BB8.out hb)
          clear HCL hb RL8 RM8 RP8 TT8 CV8 RV8 CX8 RY8 BB8
          have HCL := Aside0.mk (rconcat_kind k k2 br by_ Ar Ay cr cy vs ms V9 RV9.out RY9.out hk9)
          go_wp2_with (go_at_call 17; go_loud (refine HCL.out.mono ?_))
          rintro e V10 ⟨rfl, hb⟩
          have RL10 := Aside0.mk (RL9.out.below hb)
          have RM10 := Aside0.mk (RM9.out.below hb)
          have RP10 := Aside0.mk (RP9.out.below hb)
          have TT10 := Aside0.mk (Utf8Tabs_below TT9.out hb)
          have CV10 := Aside0.mk (CV9.out.below hb)
          have RV10 := Aside0.mk (RV9.out.below hb)
          have CX10 := Aside0.mk (CX9.out.below hb)
          have RY10 := Aside0.mk (RY9.out.below hb)
          have BB10 := Aside0.mk (below_then BB9.out hb)
          clear HCL hb RL9 RM9 RP9 TT9 CV9 RV9 CX9 RY9 BB9
          clear hk9
          have HCL := Aside0.mk (same_nilB V10)
          go_wp2_with (go_at_call 11; go_loud (refine HCL.out.mono ?_))
          rintro e V11 ⟨rfl, hb⟩
          have RL11 := Aside0.mk (RL10.out.below hb)
          have RM11 := Aside0.mk (RM10.out.below hb)
          have RP11 := Aside0.mk (RP10.out.below hb)
          have TT11 := Aside0.mk (Utf8Tabs_below TT10.out hb)
          have CV11 := Aside0.mk (CV10.out.below hb)
          have RV11 := Aside0.mk (RV10.out.below hb)
          have CX11 := Aside0.mk (CX10.out.below hb)
          have RY11 := Aside0.mk (RY10.out.below hb)
          have BB11 := Aside0.mk (below_then BB10.out hb)
          clear HCL hb RL10 RM10 RP10 TT10 CV10 RV10 CX10 RY10 BB10
          have HCL := Aside0.mk (same_ok k2 HC2.out.1 bx by_ Ay cy ms ms V11 CX11.out RY11.out ⟨rfl, fun _ _ => ⟨rfl, rfl, rfl, rfl, rfl⟩⟩ (by have := HNN.out; omega))
          go_wp2_with (go_at_call 11; go_loud (refine HCL.out.mono ?_))
          rintro e V12 ⟨rfl, hb⟩
          have RL12 := Aside0.mk (RL11.out.below hb)
          have RM12 := Aside0.mk (RM11.out.below hb)
          have RP12 := Aside0.mk (RP11.out.below hb)
          have TT12 := Aside0.mk (Utf8Tabs_below TT11.out hb)
          have CV12 := Aside0.mk (CV11.out.below hb)
          have RV12 := Aside0.mk (RV11.out.below hb)
          have CX12 := Aside0.mk (CX11.out.below hb)
          have RY12 := Aside0.mk (RY11.out.below hb)
          have BB12 := Aside0.mk (below_then BB11.out hb)
          clear HCL hb RL11 RM11 RP11 TT11 CV11 RV11 CX11 RY11 BB11
          have HCL := Aside0.mk (same_ok k HC.out.1 bv br Ar cr vs vs V12 CV12.out RV12.out ⟨rfl, fun _ _ => ⟨rfl, rfl, rfl, rfl, rfl⟩⟩ (by have := HNN.out; omega))
          go_wp2_with (go_at_call 11; go_loud (refine HCL.out.mono ?_))
          rintro e V13 ⟨rfl, hb⟩
          have RL13 := Aside0.mk (RL12.out.below hb)
          have RM13 := Aside0.mk (RM12.out.below hb)
          have RP13 := Aside0.mk (RP12.out.below hb)
          have TT13 := Aside0.mk (Utf8Tabs_below TT12.out hb)
          have CV13 := Aside0.mk (CV12.out.below hb)
          have RV13 := Aside0.mk (RV12.out.below hb)
          have CX13 := Aside0.mk (CX12.out.below hb)
          have RY13 := Aside0.mk (RY12.out.below hb)
          have BB13 := Aside0.mk (below_then BB12.out hb)
          clear HCL hb RL12 RM12 RP12 TT12 CV12 RV12 CX12 RY12 BB12
          go_wp2
          go_ret
          exact ⟨rfl, BB13.out⟩
      · skip
        have HC2 := Aside0.mk hC2
        clear hC2
        obtain ⟨f2, hf2⟩ : ∃ f : Int, f = (if 1 ≤ k2 ∧ k2 ≤ 6 then 31 else 1) := ⟨_, rfl⟩
        have HF2 := Aside0.mk hf2
        clear hf2
        have HCL := Aside0.mk (pof_no k2 B ms c2 V6 HC2.out RM6.out (by have := HNN.out; omega))
        rw [← HE.out.2.2, ← HF2.out] at HCL
        go_wp2_with (go_at_call 9; go_loud (refine HCL.out.mono ?_))
        rintro e V7 ⟨rfl, hb⟩
        have RL7 := Aside0.mk (RL6.out.below hb)
        have RM7 := Aside0.mk (RM6.out.below hb)
        have RP7 := Aside0.mk (RP6.out.below hb)
        have TT7 := Aside0.mk (Utf8Tabs_below TT6.out hb)
        have CV7 := Aside0.mk (CV6.out.below hb)
        have RV7 := Aside0.mk (RV6.out.below hb)
        have BB7 := Aside0.mk (below_then BB6.out hb)
        clear HCL hb RL6 RM6 RP6 TT6 CV6 RV6 BB6
        have HCL := Aside0.mk (rof_noT k2 B ms c2 V7 HC2.out RM7.out TT7.out HS.out.2 (by have := HNN.out; omega))
        rw [← HE.out.2.2, ← HF2.out] at HCL
        go_wp2_with (go_at_call 10; go_loud (refine HCL.out.mono ?_))
        rintro e V8 ⟨rfl, hb⟩
        have RL8 := Aside0.mk (RL7.out.below hb)
        have RM8 := Aside0.mk (RM7.out.below hb)
        have RP8 := Aside0.mk (RP7.out.below hb)
        have TT8 := Aside0.mk (Utf8Tabs_below TT7.out hb)
        have CV8 := Aside0.mk (CV7.out.below hb)
        have RV8 := Aside0.mk (RV7.out.below hb)
        have BB8 := Aside0.mk (below_then BB7.out hb)
        clear HCL hb RL7 RM7 RP7 TT7 CV7 RV7 BB7
        have HCL := Aside0.mk (concat_nilB (.pointer (some ⟨bv, 0, none⟩)) V8 _ rfl)
        go_wp2_with (go_at_call 16; go_loud (refine HCL.out.mono ?_))
        rintro e V9 ⟨rfl, hb⟩
        have RL9 := Aside0.mk (RL8.out.below hb)
        have RM9 := Aside0.mk (RM8.out.below hb)
        have RP9 := Aside0.mk (RP8.out.below hb)
        have TT9 := Aside0.mk (Utf8Tabs_below TT8.out hb)
        have CV9 := Aside0.mk (CV8.out.below hb)
        have RV9 := Aside0.mk (RV8.out.below hb)
        have BB9 := Aside0.mk (below_then BB8.out hb)
        clear HCL hb RL8 RM8 RP8 TT8 CV8 RV8 BB8
        have HCL := Aside0.mk (rconcat_nilB (.pointer (some ⟨br, 0, none⟩)) V9 _ rfl)
        go_wp2_with (go_at_call 17; go_loud (refine HCL.out.mono ?_))
        rintro e V10 ⟨rfl, hb⟩
        have RL10 := Aside0.mk (RL9.out.below hb)
        have RM10 := Aside0.mk (RM9.out.below hb)
        have RP10 := Aside0.mk (RP9.out.below hb)
        have TT10 := Aside0.mk (Utf8Tabs_below TT9.out hb)
        have CV10 := Aside0.mk (CV9.out.below hb)
        have RV10 := Aside0.mk (RV9.out.below hb)
        have BB10 := Aside0.mk (below_then BB9.out hb)
        clear HCL hb RL9 RM9 RP9 TT9 CV9 RV9 BB9
        have HCL := Aside0.mk (same_nilB V10)
        go_wp2_with (go_at_call 11; go_loud (refine HCL.out.mono ?_))
        rintro e V11 ⟨rfl, hb⟩
        have RL11 := Aside0.mk (RL10.out.below hb)
        have RM11 := Aside0.mk (RM10.out.below hb)
        have RP11 := Aside0.mk (RP10.out.below hb)
        have TT11 := Aside0.mk (Utf8Tabs_below TT10.out hb)
        have CV11 := Aside0.mk (CV10.out.below hb)
        have RV11 := Aside0.mk (RV10.out.below hb)
        have BB11 := Aside0.mk (below_then BB10.out hb)
        clear HCL hb RL10 RM10 RP10 TT10 CV10 RV10 BB10
        have HCL := Aside0.mk (same_ok k HC.out.1 bv br Ar cr vs vs V11 CV11.out RV11.out ⟨rfl, fun _ _ => ⟨rfl, rfl, rfl, rfl, rfl⟩⟩ (by have := HNN.out; omega))
        go_wp2_with (go_at_call 11; go_loud (refine HCL.out.mono ?_))
        rintro e V12 ⟨rfl, hb⟩
        have RL12 := Aside0.mk (RL11.out.below hb)
        have RM12 := Aside0.mk (RM11.out.below hb)
        have RP12 := Aside0.mk (RP11.out.below hb)
        have TT12 := Aside0.mk (Utf8Tabs_below TT11.out hb)
        have CV12 := Aside0.mk (CV11.out.below hb)
        have RV12 := Aside0.mk (RV11.out.below hb)
        have BB12 := Aside0.mk (below_then BB11.out hb)
        clear HCL hb RL11 RM11 RP11 TT11 CV11 RV11 BB11
        go_wp2
        go_ret
        exact ⟨rfl, BB12.out⟩
    · skip
      have HQ : Aside0 (Q < pl.length) := ⟨by have h1 := HL.out.le; have h2 := HE.out.2.1; omega⟩
      clear hQ
      have HCL := Aside0.mk (CV3.out.gatherErr HC.out.1 (by have := HNN.out; omega) PA pl d RP3.out Q HL.out HQ.out (by have := HNN.out; omega))
      rw [← HE.out.2.1] at HCL
      go_wp2_with (go_at_call 14; go_loud (refine HCL.out.mono ?_))
      rintro e V4 ⟨rfl, hb⟩
      have RL4 := Aside0.mk (RL3.out.below hb)
      have RM4 := Aside0.mk (RM3.out.below hb)
      have RP4 := Aside0.mk (RP3.out.below hb)
      have TT4 := Aside0.mk (Utf8Tabs_below TT3.out hb)
      have CV4 := Aside0.mk (CV3.out.below hb)
      have RV4 := Aside0.mk (RV3.out.below hb)
      have BB4 := Aside0.mk (below_then BB3.out hb)
      clear HCL hb RL3 RM3 RP3 TT3 CV3 RV3 BB3
      have HCL := Aside0.mk (RV4.out.gatherErr (by have := HNN.out; omega) PA pl d RP4.out Q HL.out HQ.out (by have := HNN.out; omega))
      rw [← HE.out.2.1] at HCL
      go_wp2_with (go_at_call 15; go_loud (refine HCL.out.mono ?_))
      rintro e V5 ⟨rfl, hb⟩
      have RL5 := Aside0.mk (RL4.out.below hb)
      have RM5 := Aside0.mk (RM4.out.below hb)
      have RP5 := Aside0.mk (RP4.out.below hb)
      have TT5 := Aside0.mk (Utf8Tabs_below TT4.out hb)
      have CV5 := Aside0.mk (CV4.out.below hb)
      have RV5 := Aside0.mk (RV4.out.below hb)
      have BB5 := Aside0.mk (below_then BB4.out hb)
      clear HCL hb RL4 RM4 RP4 TT4 CV4 RV4 BB4
      have HCL := Aside0.mk (same_nilB V5)
      go_wp2_with (go_at_call 11; go_loud (refine HCL.out.mono ?_))
      rintro e V6 ⟨rfl, hb⟩
      have RL6 := Aside0.mk (RL5.out.below hb)
      have RM6 := Aside0.mk (RM5.out.below hb)
      have RP6 := Aside0.mk (RP5.out.below hb)
      have TT6 := Aside0.mk (Utf8Tabs_below TT5.out hb)
      have CV6 := Aside0.mk (CV5.out.below hb)
      have RV6 := Aside0.mk (RV5.out.below hb)
      have BB6 := Aside0.mk (below_then BB5.out hb)
      clear HCL hb RL5 RM5 RP5 TT5 CV5 RV5 BB5
      by_cases hC2 : Takes k2 ms
      · skip
        have HC2 := Aside0.mk hC2
        clear hC2
        have HCL := Aside0.mk (pof_ok k2 B ms c2 V6 HC2.out RM6.out (by have := HNN.out; omega))
        rw [← HE.out.2.2] at HCL
        go_wp2_with (go_at_call 9; go_loud (refine HCL.out.mono ?_))
        rintro e V7 ⟨rfl, hCo, hb⟩
        have RL7 := Aside0.mk (RL6.out.below hb)
        have RM7 := Aside0.mk (RM6.out.below hb)
        have RP7 := Aside0.mk (RP6.out.below hb)
        have TT7 := Aside0.mk (Utf8Tabs_below TT6.out hb)
        have CV7 := Aside0.mk (CV6.out.below hb)
        have RV7 := Aside0.mk (RV6.out.below hb)
        have BB7 := Aside0.mk (below_then BB6.out hb)
        clear HCL hb RL6 RM6 RP6 TT6 CV6 RV6 BB6
        have CX7 := Aside0.mk hCo
        clear hCo
        have HCL := Aside0.mk (rof_okT k2 B ms c2 V7 HC2.out RM7.out TT7.out HS.out.2 (by have := HNN.out; omega))
        rw [← HE.out.2.2] at HCL
        go_wp2_with (go_at_call 10; go_loud (refine HCL.out.mono ?_))
        rintro e V8 ⟨rfl, ⟨Ay, cy, hRo⟩, hb⟩
        have RL8 := Aside0.mk (RL7.out.below hb)
        have RM8 := Aside0.mk (RM7.out.below hb)
        have RP8 := Aside0.mk (RP7.out.below hb)
        have TT8 := Aside0.mk (Utf8Tabs_below TT7.out hb)
        have CV8 := Aside0.mk (CV7.out.below hb)
        have RV8 := Aside0.mk (RV7.out.below hb)
        have CX8 := Aside0.mk (CX7.out.below hb)
        have BB8 := Aside0.mk (below_then BB7.out hb)
        clear HCL hb RL7 RM7 RP7 TT7 CV7 RV7 CX7 BB7
        have RY8 := Aside0.mk hRo
        clear hRo
        generalize V6.heap.size + 1 = bx at CX8 ⊢
        generalize V7.heap.size = by_ at RY8 ⊢
        by_cases hkk : k2 = k
        · skip
          subst hkk
          have HCL := Aside0.mk (CV8.out.concatOk CX8.out HC.out.1 (by have := HNN.out; omega))
          go_wp2_with (go_at_call 16; go_loud (refine HCL.out.mono ?_))
          first
            | (intro e V9 h; have h : (∃ (bx : Nat), _) ∧ _ := h; obtain ⟨⟨bc, he, hU⟩, hb⟩ := h; subst he)
            | (intro e V9 bc he hU hb; subst he)
          have RL9 := Aside0.mk (RL8.out.below hb)
          have RM9 := Aside0.mk (RM8.out.below hb)
          have RP9 := Aside0.mk (RP8.out.below hb)
          have TT9 := Aside0.mk (Utf8Tabs_below TT8.out hb)
          have CV9 := Aside0.mk (CV8.out.below hb)
          have RV9 := Aside0.mk (RV8.out.below hb)
          have CX9 := Aside0.mk (CX8.out.below hb)
          have RY9 := Aside0.mk (RY8.out.below hb)
          have BB9 := Aside0.mk (below_then BB8.out hb)
          clear HCL hb RL8 RM8 RP8 TT8 CV8 RV8 CX8 RY8 BB8
          obtain ⟨cs, hqc, hCc⟩ := hU.out
          have CC9 := Aside0.mk hCc
          have QC := Aside0.mk hqc
          clear hU hqc hCc
          have HCL := Aside0.mk (RV9.out.concatOk RY9.out (by have := HNN.out; omega))
          go_wp2_with (go_at_call 17; go_loud (refine HCL.out.mono ?_))
          first
            | (intro e V10 h; have h : (∃ (bx : Nat), _) ∧ _ := h; obtain ⟨⟨bd, he, hU⟩, hb⟩ := h; subst he)
            | (intro e V10 bd he hU hb; subst he)
          have RL10 := Aside0.mk (RL9.out.below hb)
          have RM10 := Aside0.mk (RM9.out.below hb)
          have RP10 := Aside0.mk (RP9.out.below hb)
          have TT10 := Aside0.mk (Utf8Tabs_below TT9.out hb)
          have CV10 := Aside0.mk (CV9.out.below hb)
          have RV10 := Aside0.mk (RV9.out.below hb)
          have CX10 := Aside0.mk (CX9.out.below hb)
          have RY10 := Aside0.mk (RY9.out.below hb)
          have CC10 := Aside0.mk (CC9.out.below hb)
          have BB10 := Aside0.mk (below_then BB9.out hb)
          clear HCL hb RL9 RM9 RP9 TT9 CV9 RV9 CX9 RY9 CC9 BB9
          obtain ⟨Ad, cd, hRd⟩ := hU.out
          have RD10 := Aside0.mk hRd
          clear hU hRd
          have HCL := Aside0.mk (same_ok k2 HC.out.1 bc bd Ad cd (vs ++ ms) cs V10 CC10.out RD10.out QC.out (by rw [List.length_append]; have := HNN.out; omega))
          go_wp2_with (go_at_call 11; go_loud (refine HCL.out.mono ?_))
          rintro e V11 ⟨rfl, hb⟩
          have RL11 := Aside0.mk (RL10.out.below hb)
          have RM11 := Aside0.mk (RM10.out.below hb)
          have RP11 := Aside0.mk (RP10.out.below hb)
          have TT11 := Aside0.mk (Utf8Tabs_below TT10.out hb)
          have CV11 := Aside0.mk (CV10.out.below hb)
          have RV11 := Aside0.mk (RV10.out.below hb)
          have CX11 := Aside0.mk (CX10.out.below hb)
          have RY11 := Aside0.mk (RY10.out.below hb)
          have CC11 := Aside0.mk (CC10.out.below hb)
          have RD11 := Aside0.mk (RD10.out.below hb)
          have BB11 := Aside0.mk (below_then BB10.out hb)
          clear HCL hb RL10 RM10 RP10 TT10 CV10 RV10 CX10 RY10 CC10 RD10 BB10
          have HCL := Aside0.mk (same_ok k2 HC.out.1 bx by_ Ay cy ms ms V11 CX11.out RY11.out ⟨rfl, fun _ _ => ⟨rfl, rfl, rfl, rfl, rfl⟩⟩ (by have := HNN.out; omega))
          go_wp2_with (go_at_call 11; go_loud (refine HCL.out.mono ?_))
          rintro e V12 ⟨rfl, hb⟩
          have RL12 := Aside0.mk (RL11.out.below hb)
          have RM12 := Aside0.mk (RM11.out.below hb)
          have RP12 := Aside0.mk (RP11.out.below hb)
          have TT12 := Aside0.mk (Utf8Tabs_below TT11.out hb)
          have CV12 := Aside0.mk (CV11.out.below hb)
          have RV12 := Aside0.mk (RV11.out.below hb)
          have CX12 := Aside0.mk (CX11.out.below hb)
          have RY12 := Aside0.mk (RY11.out.below hb)
          have CC12 := Aside0.mk (CC11.out.below hb)
          have RD12 := Aside0.mk (RD11.out.below hb)
          have BB12 := Aside0.mk (below_then BB11.out hb)
          clear HCL hb RL11 RM11 RP11 TT11 CV11 RV11 CX11 RY11 CC11 RD11 BB11
          have HCL := Aside0.mk (same_ok k2 HC.out.1 bv br Ar cr vs vs V12 CV12.out RV12.out ⟨rfl, fun _ _ => ⟨rfl, rfl, rfl, rfl, rfl⟩⟩ (by have := HNN.out; omega))
          go_wp2_with (go_at_call 11; go_loud (refine HCL.out.mono ?_))
          rintro e V13 ⟨rfl, hb⟩
          have RL13 := Aside0.mk (RL12.out.below hb)
          have RM13 := Aside0.mk (RM12.out.below hb)
          have RP13 := Aside0.mk (RP12.out.below hb)
          have TT13 := Aside0.mk (Utf8Tabs_below TT12.out hb)
          have CV13 := Aside0.mk (CV12.out.below hb)
          have RV13 := Aside0.mk (RV12.out.below hb)
          have CX13 := Aside0.mk (CX12.out.below hb)
          have RY13 := Aside0.mk (RY12.out.below hb)
          have CC13 := Aside0.mk (CC12.out.below hb)
          have RD13 := Aside0.mk (RD12.out.below hb)
          have BB13 := Aside0.mk (below_then BB12.out hb)
          clear HCL hb RL12 RM12 RP12 TT12 CV12 RV12 CX12 RY12 CC12 RD12 BB12
          go_wp2
          go_ret
          exact ⟨rfl, BB13.out⟩
        · skip
          have hk9 : (k2 != k) = true := by simp [hkk]
          clear hkk
          have HCL := Aside0.mk (concat_kind k k2 (fun _ => True) bv bx (ofL k vs) (ofL k2 ms) V8 CV8.out.vec CX8.out.vec (ofL_k _ _) (ofL_k _ _) hk9)
          go_wp2_with (go_at_call 16; go_loud (refine HCL.out.mono ?_))
          rintro e V9 ⟨rfl, hb⟩
          have RL9 := Aside0.mk (RL8.out.below hb)
          have RM9 := Aside0.mk (RM8.out.below hb)
          have RP9 := Aside0.mk (RP8.out.below hb)
          have TT9 := Aside0.mk (Utf8Tabs_below TT8.out hb)
          have CV9 := Aside0.mk (CV8.out.below hb)
          have RV9 := Aside0.mk (RV8.out.below hb)
          have CX9 := Aside0.mk (CX8.out.below hb)
          have RY9 := Aside0.mk (RY8.out.below hb)
          have BB9 := Aside0.mk (below_then BB8.out hb)
          clear HCL hb RL8 RM8 RP8 TT8 CV8 RV8 CX8 RY8 BB8
          have HCL := Aside0.mk (rconcat_kind k k2 br by_ Ar Ay cr cy vs ms V9 RV9.out RY9.out hk9)
          go_wp2_with (go_at_call 17; go_loud (refine HCL.out.mono ?_))
          rintro e V10 ⟨rfl, hb⟩
          have RL10 := Aside0.mk (RL9.out.below hb)
          have RM10 := Aside0.mk (RM9.out.below hb)
          have RP10 := Aside0.mk (RP9.out.below hb)
          have TT10 := Aside0.mk (Utf8Tabs_below TT9.out hb)
          have CV10 := Aside0.mk (CV9.out.below hb)
          have RV10 := Aside0.mk (RV9.out.below hb)
          have CX10 := Aside0.mk (CX9.out.below hb)
          have RY10 := Aside0.mk (RY9.out.below hb)
          have BB10 := Aside0.mk (below_then BB9.out hb)
          clear HCL hb RL9 RM9 RP9 TT9 CV9 RV9 CX9 RY9 BB9
          clear hk9
          have HCL := Aside0.mk (same_nilB V10)
          go_wp2_with (go_at_call 11; go_loud (refine HCL.out.mono ?_))
          rintro e V11 ⟨rfl, hb⟩
          have RL11 := Aside0.mk (RL10.out.below hb)
          have RM11 := Aside0.mk (RM10.out.below hb)
          have RP11 := Aside0.mk (RP10.out.below hb)
          have TT11 := Aside0.mk (Utf8Tabs_below TT10.out hb)
          have CV11 := Aside0.mk (CV10.out.below hb)
          have RV11 := Aside0.mk (RV10.out.below hb)
          have CX11 := Aside0.mk (CX10.out.below hb)
          have RY11 := Aside0.mk (RY10.out.below hb)
          have BB11 := Aside0.mk (below_then BB10.out hb)
          clear HCL hb RL10 RM10 RP10 TT10 CV10 RV10 CX10 RY10 BB10
          have HCL := Aside0.mk (same_ok k2 HC2.out.1 bx by_ Ay cy ms ms V11 CX11.out RY11.out ⟨rfl, fun _ _ => ⟨rfl, rfl, rfl, rfl, rfl⟩⟩ (by have := HNN.out; omega))
          go_wp2_with (go_at_call 11; go_loud (refine HCL.out.mono ?_))
          rintro e V12 ⟨rfl, hb⟩
          have RL12 := Aside0.mk (RL11.out.below hb)
          have RM12 := Aside0.mk (RM11.out.below hb)
          have RP12 := Aside0.mk (RP11.out.below hb)
          have TT12 := Aside0.mk (Utf8Tabs_below TT11.out hb)
          have CV12 := Aside0.mk (CV11.out.below hb)
          have RV12 := Aside0.mk (RV11.out.below hb)
          have CX12 := Aside0.mk (CX11.out.below hb)
          have RY12 := Aside0.mk (RY11.out.below hb)
          have BB12 := Aside0.mk (below_then BB11.out hb)
          clear HCL hb RL11 RM11 RP11 TT11 CV11 RV11 CX11 RY11 BB11
          have HCL := Aside0.mk (same_ok k HC.out.1 bv br Ar cr vs vs V12 CV12.out RV12.out ⟨rfl, fun _ _ => ⟨rfl, rfl, rfl, rfl, rfl⟩⟩ (by have := HNN.out; omega))
          go_wp2_with (go_at_call 11; go_loud (refine HCL.out.mono ?_))
          rintro e V13 ⟨rfl, hb⟩
          have RL13 := Aside0.mk (RL12.out.below hb)
          have RM13 := Aside0.mk (RM12.out.below hb)
          have RP13 := Aside0.mk (RP12.out.below hb)
          have TT13 := Aside0.mk (Utf8Tabs_below TT12.out hb)
          have CV13 := Aside0.mk (CV12.out.below hb)
          have RV13 := Aside0.mk (RV12.out.below hb)
          have CX13 := Aside0.mk (CX12.out.below hb)
          have RY13 := Aside0.mk (RY12.out.below hb)
          have BB13 := Aside0.mk (below_then BB12.out hb)
          clear HCL hb RL12 RM12 RP12 TT12 CV12 RV12 CX12 RY12 BB12
          go_wp2
          go_ret
          exact ⟨rfl, BB13.out⟩
      · skip
        have HC2 := Aside0.mk hC2
        clear hC2
        obtain ⟨f2, hf2⟩ : ∃ f : Int, f = (if 1 ≤ k2 ∧ k2 ≤ 6 then 31 else 1) := ⟨_, rfl⟩
        have HF2 := Aside0.mk hf2
        clear hf2
        have HCL := Aside0.mk (pof_no k2 B ms c2 V6 HC2.out RM6.out (by have := HNN.out; omega))
        rw [← HE.out.2.2, ← HF2.out] at HCL
        go_wp2_with (go_at_call 9; go_loud (refine HCL.out.mono ?_))
        rintro e V7 ⟨rfl, hb⟩
        have RL7 := Aside0.mk (RL6.out.below hb)
        have RM7 := Aside0.mk (RM6.out.below hb)
        have RP7 := Aside0.mk (RP6.out.below hb)
        have TT7 := Aside0.mk (Utf8Tabs_below TT6.out hb)
        have CV7 := Aside0.mk (CV6.out.below hb)
        have RV7 := Aside0.mk (RV6.out.below hb)
        have BB7 := Aside0.mk (below_then BB6.out hb)
        clear HCL hb RL6 RM6 RP6 TT6 CV6 RV6 BB6
        have HCL := Aside0.mk (rof_noT k2 B ms c2 V7 HC2.out RM7.out TT7.out HS.out.2 (by have := HNN.out; omega))
        rw [← HE.out.2.2, ← HF2.out] at HCL
        go_wp2_with (go_at_call 10; go_loud (refine HCL.out.mono ?_))
        rintro e V8 ⟨rfl, hb⟩
        have RL8 := Aside0.mk (RL7.out.below hb)
        have RM8 := Aside0.mk (RM7.out.below hb)
        have RP8 := Aside0.mk (RP7.out.below hb)
        have TT8 := Aside0.mk (Utf8Tabs_below TT7.out hb)
        have CV8 := Aside0.mk (CV7.out.below hb)
        have RV8 := Aside0.mk (RV7.out.below hb)
        have BB8 := Aside0.mk (below_then BB7.out hb)
        clear HCL hb RL7 RM7 RP7 TT7 CV7 RV7 BB7
        have HCL := Aside0.mk (concat_nilB (.pointer (some ⟨bv, 0, none⟩)) V8 _ rfl)
        go_wp2_with (go_at_call 16; go_loud (refine HCL.out.mono ?_))
        rintro e V9 ⟨rfl, hb⟩
        have RL9 := Aside0.mk (RL8.out.below hb)
        have RM9 := Aside0.mk (RM8.out.below hb)
        have RP9 := Aside0.mk (RP8.out.below hb)
        have TT9 := Aside0.mk (Utf8Tabs_below TT8.out hb)
        have CV9 := Aside0.mk (CV8.out.below hb)
        have RV9 := Aside0.mk (RV8.out.below hb)
        have BB9 := Aside0.mk (below_then BB8.out hb)
        clear HCL hb RL8 RM8 RP8 TT8 CV8 RV8 BB8
        have HCL := Aside0.mk (rconcat_nilB (.pointer (some ⟨br, 0, none⟩)) V9 _ rfl)
        go_wp2_with (go_at_call 17; go_loud (refine HCL.out.mono ?_))
        rintro e V10 ⟨rfl, hb⟩
        have RL10 := Aside0.mk (RL9.out.below hb)
        have RM10 := Aside0.mk (RM9.out.below hb)
        have RP10 := Aside0.mk (RP9.out.below hb)
        have TT10 := Aside0.mk (Utf8Tabs_below TT9.out hb)
        have CV10 := Aside0.mk (CV9.out.below hb)
        have RV10 := Aside0.mk (RV9.out.below hb)
        have BB10 := Aside0.mk (below_then BB9.out hb)
        clear HCL hb RL9 RM9 RP9 TT9 CV9 RV9 BB9
        have HCL := Aside0.mk (same_nilB V10)
        go_wp2_with (go_at_call 11; go_loud (refine HCL.out.mono ?_))
        rintro e V11 ⟨rfl, hb⟩
        have RL11 := Aside0.mk (RL10.out.below hb)
        have RM11 := Aside0.mk (RM10.out.below hb)
        have RP11 := Aside0.mk (RP10.out.below hb)
        have TT11 := Aside0.mk (Utf8Tabs_below TT10.out hb)
        have CV11 := Aside0.mk (CV10.out.below hb)
        have RV11 := Aside0.mk (RV10.out.below hb)
        have BB11 := Aside0.mk (below_then BB10.out hb)
        clear HCL hb RL10 RM10 RP10 TT10 CV10 RV10 BB10
        have HCL := Aside0.mk (same_ok k HC.out.1 bv br Ar cr vs vs V11 CV11.out RV11.out ⟨rfl, fun _ _ => ⟨rfl, rfl, rfl, rfl, rfl⟩⟩ (by have := HNN.out; omega))
        go_wp2_with (go_at_call 11; go_loud (refine HCL.out.mono ?_))
        rintro e V12 ⟨rfl, hb⟩
        have RL12 := Aside0.mk (RL11.out.below hb)
        have RM12 := Aside0.mk (RM11.out.below hb)
        have RP12 := Aside0.mk (RP11.out.below hb)
        have TT12 := Aside0.mk (Utf8Tabs_below TT11.out hb)
        have CV12 := Aside0.mk (CV11.out.below hb)
        have RV12 := Aside0.mk (RV11.out.below hb)
        have BB12 := Aside0.mk (below_then BB11.out hb)
        clear HCL hb RL11 RM11 RP11 TT11 CV11 RV11 BB11
        go_wp2
        go_ret
        exact ⟨rfl, BB12.out⟩
  · skip
    have HC := Aside0.mk hC
    clear hC
    obtain ⟨f1, hf1⟩ : ∃ f : Int, f = (if 1 ≤ k ∧ k ≤ 6 then 31 else 1) := ⟨_, rfl⟩
    have HF1 := Aside0.mk hf1
    clear hf1
    have HCL := Aside0.mk (pof_no k A vs c V1 HC.out RL1.out (by have := HNN.out; omega))
    rw [← HE.out.1, ← HF1.out] at HCL
    go_wp2_with (go_at_call 9; go_loud (refine HCL.out.mono ?_))
    rintro e V2 ⟨rfl, hb⟩
    have RL2 := Aside0.mk (RL1.out.below hb)
    have RM2 := Aside0.mk (RM1.out.below hb)
    have RP2 := Aside0.mk (RP1.out.below hb)
    have TT2 := Aside0.mk (Utf8Tabs_below TT1.out hb)
    have BB2 := Aside0.mk (below_then BB1.out hb)
    clear HCL hb RL1 RM1 RP1 TT1 BB1
    have HCL := Aside0.mk (rof_noT k A vs c V2 HC.out RL2.out TT2.out HS.out.1 (by have := HNN.out; omega))
    rw [← HE.out.1, ← HF1.out] at HCL
    go_wp2_with (go_at_call 10; go_loud (refine HCL.out.mono ?_))
    rintro e V3 ⟨rfl, hb⟩
    have RL3 := Aside0.mk (RL2.out.below hb)
    have RM3 := Aside0.mk (RM2.out.below hb)
    have RP3 := Aside0.mk (RP2.out.below hb)
    have TT3 := Aside0.mk (Utf8Tabs_below TT2.out hb)
    have BB3 := Aside0.mk (below_then BB2.out hb)
    clear HCL hb RL2 RM2 RP2 TT2 BB2
    go_wp2
    go_ret
    exact ⟨rfl, BB3.out⟩
end Go.Proofs.YtbdbcbpcekpcoaaDoor
