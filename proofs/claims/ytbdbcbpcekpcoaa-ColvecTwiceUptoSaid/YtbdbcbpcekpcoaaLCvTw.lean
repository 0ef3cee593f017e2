/- The walk of the law ColvecTwice. -/
import Derived.Test.YtbdbcbpcekpcoaaCvInt
import Derived.Test.YtbdbcbpcekpcoaaRegS
set_option linter.unusedVariables false
set_option linter.unusedSimpArgs false
namespace Go.Proofs.Ytbdbcbpcekpcoaa
open Go.RowKit Go.Maps

/-- 0, 1, 2 .. -/
def uptoI (n : Nat) : List Int := (List.range n).map fun i : Nat => (i : Int)
theorem uptoI_len (n : Nat) : (uptoI n).length = n := by simp [uptoI]
theorem uptoI_snoc (n : Nat) : uptoI (n + 1) = uptoI n ++ [(n : Int)] := by simp [uptoI, List.range_succ]
theorem uptoI_at (n i : Nat) (h : i < n) : (uptoI n).getD i 0 = (i : Int) := by simp [uptoI, List.getD, h]
theorem uptoI_in (n : Nat) : ∀ x ∈ uptoI n, 0 ≤ x ∧ x < (n : Int) := by
  intro x hx
  simp [uptoI] at hx
  obtain ⟨a, h, rfl⟩ := hx
  omega
theorem below_grow {B : Nat} {w0 w w' : World} {row : Option Nat} (h : Below B w0 w) (hB : B ≤ w0.heap.size) (hg : w.grownBy w' row) (hr : ∀ k, row = some k → B ≤ k) : Below B w0 w' := by
  refine ⟨hg.os.trans h.os, hg.tape.trans h.tape, hg.output.trans h.output, Nat.le_trans h.size hg.size, fun k hk => ?_⟩
  exact (hg.block k (by have := h.size; omega) (fun e => by have := hr k e.symm; omega)).trans (h.block k hk)
theorem below_app {W wr w' : World} {o : Obj} {v : Value} {xs : List Int} (HB : Below W.heap.size W wr) (hown : OwnI wr W.heap.size v xs) (hg : (wr.alloc o).grownBy w' v.ownBlock) : Below W.heap.size W w' :=
  below_grow (w0 := W) (below_more HB o) (Nat.le_refl _) hg (fun k e => (hown.lt k e).1)
theorem wrap_id (y : Int) (h0 : -9223372036854775808 ≤ y) (h1 : y ≤ 9223372036854775807) : IntKind.i64.wrap y = y := by
  rw [IntKind.wrap_i64]
  omega
theorem cell_first (W : World) (y : Int) (t : TypeId) : (W.alloc (.cells #[.int .i64 y] t)).cell? ⟨W.heap.size, 0, none⟩ = some (.int .i64 y) := by
  unfold World.cell?
  rw [heap_alloc_new W _]
  rfl
theorem in_snoc {ps : List Int} {N x : Int} (h : ∀ x ∈ ps, 0 ≤ x ∧ x < N) (h0 : 0 ≤ x) (h1 : x < N) : ∀ y ∈ ps ++ [x], 0 ≤ y ∧ y < N := fun y hy => by
  rcases List.mem_append.1 hy with hy | hy
  · exact h y hy
  · simp at hy
    subst hy
    exact ⟨h0, h1⟩
set_option maxRecDepth 100000 in
set_option maxHeartbeats 6400000 in
theorem twice_walk (k : Int) (A : Option Addr) (vs : List V5) (c : Nat) (PA : Option Addr) (pb : List Int) (d : Nat) (QA : Option Addr) (qb : List Int) (d2 : Nat) (w : World) (hr : ReadsV w A vs) (hN : vs.length ≤ 1048576) (hp : ReadsB w PA pb) (hpb : ∀ x ∈ pb, 0 ≤ x ∧ x < 256) (hpl : pb.length ≤ 1048576) (hq : ReadsB w QA qb) (hqb : ∀ x ∈ qb, 0 ≤ x ∧ x < 256) (hql : qb.length ≤ 1048576) :
    Calls Try.prog 7 #[.int .i64 k, .slice A vs.length c, .slice PA pb.length d, .slice QA qb.length d2] w fun e w' => e = .returned (.bool true) ∧ Below w.heap.size w w' := by
  have hH := head_any w
  have HO1 : Aside0 (∀ W, Below w.heap.size w W → Calls Try.prog 12 #[.int .i64 k, .slice A vs.length c] W fun e w' => ((∃ b, e = .returned (.tuple #[.pointer (some ⟨b, 0, none⟩), .int .i64 0]) ∧ (1 ≤ k ∧ k ≤ 6) ∧ ColOk w' k b vs) ∨ (∃ f : Int, e = .returned (.tuple #[.pointer none, .int .i64 f]) ∧ (f != 0) = true)) ∧ Below W.heap.size W w') := ⟨fun W h => of_two k A vs c W (hr.below h) (by omega)⟩
  have HR := Aside0.mk hr
  have HP := Aside0.mk (And.intro hp hpb)
  have HQ := Aside0.mk (And.intro hq hqb)
  obtain ⟨n, hn⟩ : ∃ n, n = vs.length := ⟨_, rfl⟩
  obtain ⟨m, hm⟩ : ∃ m, m = pb.length := ⟨_, rfl⟩
  obtain ⟨m2, hm2⟩ : ∃ m2, m2 = qb.length := ⟨_, rfl⟩
  have HL := Aside0.mk (And.intro hn (And.intro hm hm2))
  rw [← hn] at hN HO1 ⊢
  rw [← hm] at hpl ⊢
  rw [← hm2] at hql ⊢
  have hn9 : (n : Int) ≤ 1048576 := by omega
  have hm9 : (m : Int) ≤ 1048576 := by omega
  have hm29 : (m2 : Int) ≤ 1048576 := by omega
  clear hr hp hq hn hm hm2 hpb hqb
  go_enter Try.func7, Try.ntmps7
  go_wp2_with (go_at_call 8; go_loud (refine hH.mono ?_))
  first
    | (intro e W1 he HB1; subst he)
    | rintro e W1 ⟨rfl, HB1⟩
  have hO1 := HO1.out W1 HB1
  clear hH HO1
  go_wp2_with (go_at_call 12; go_loud (refine hO1.mono ?_))
  rintro e W2 ⟨hc1, hb2⟩
  have HB2 := below_then HB1 hb2
  clear hO1 hb2 HB1
  rcases hc1 with ⟨b, rfl, hk, hC⟩ | ⟨f1, rfl, hf1⟩
  · have hln := hC.len
    rw [← HL.out.1] at hln
    have HK := Aside0.mk hk
    have HC := Aside0.mk hC
    clear hk hC
    by_cases hn0 : n = 0
    · have hnz : (n : Int) = 0 := by omega
      clear hn0
      rw [hnz] at hln
      clear hnz
      go_wp2_with (go_at_call 13; go_loud (refine hln.mono ?_); (intro e W' hWE; obtain ⟨rfl, hWe⟩ := hWE; obtain rfl := hWe.symm; clear hWe))
      go_ret
      exact ⟨rfl, HB2⟩
    · have hnz : ((n : Int) == 0) = false := by rw [beq_eq_false_iff_ne]; omega
      by_cases hm0 : m = 0
      · have hmz : ((m : Int) == 0) = true := by rw [beq_iff_eq]; omega
        go_wp2_with (go_at_call 13; go_loud (refine hln.mono ?_); (intro e W' hWE; obtain ⟨rfl, hWe⟩ := hWE; obtain rfl := hWe.symm; clear hWe))
        go_ret
        exact ⟨rfl, HB2⟩
      · have hmz : ((m : Int) == 0) = false := by rw [beq_eq_false_iff_ne]; omega
        go_wp2_with (go_at_call 13; go_loud (refine hln.mono ?_); (intro e W' hWE; obtain ⟨rfl, hWe⟩ := hWE; obtain rfl := hWe.symm; clear hWe))
        have HLEN : Aside0 (∀ W, Below W2.heap.size W2 W → Calls Try.prog 13 #[.pointer (some ⟨b, 0, none⟩)] W fun e w' => e = .returned (.int .i64 (n : Int)) ∧ w' = W) := ⟨fun W h => by
          have h1 := (HC.out.below h).len
          rw [← HL.out.1] at h1
          exact h1⟩
        have HNZ := Aside0.mk (And.intro hn0 hm0)
        have HBB := Aside0.mk HB2
        clear hln hnz hmz hn0 hm0 HB2
        go_loopg [12, 13] (n + 1) (fun gg s12 s13 wr => ∃ j : Nat, j ≤ n ∧ n < gg + j ∧ s13 = .int .i64 j ∧ OwnI wr W2.heap.size s12 (uptoI j) ∧ Below W2.heap.size W2 wr)
        case atStart => exact ⟨0, by omega, by omega, rfl, ownI_nil _ _, Below.refl _ _⟩
        case round =>
          obtain ⟨j, hj, hg, rfl, hO, HB⟩ := hrel
          have hj0 : (0 : Int) ≤ (j : Int) := by omega
          have hln := HLEN.out wr HB
          have HG := Aside0.mk (And.intro hj hg)
          by_cases hlt : j < n
          · have hlti : (j : Int) < (n : Int) := by omega
            have HO := Aside0.mk hO
            have HBX := Aside0.mk HB
            clear hj hg hO HB
            go_wp2_with (first | (go_at_call 13; go_loud (refine hln.mono ?_); (intro e W' hWE; obtain ⟨rfl, hWe⟩ := hWE; obtain rfl := hWe.symm; clear hWe)) | (at_builtin; go_loud (refine append_int1 rfl (.tmp 62) (.tmp 64) rfl W2.heap.size u12 (uptoI j) rfl (j : Int) (HO.out.below (below_more (Below.refl _ _) _)) HBX.out.size rfl (by rw [uptoI_len]; omega) ?_)))
            intro v5 W5 hO5 hg5 hat5
            rw [← uptoI_snoc] at hO5
            have HB5 := below_app HBX.out HO.out hg5
            clear hg5 hat5
            go_wp2
            go_roundg (gk - 1)
            case measure => have := HG.out; omega
            case rel => exact ⟨j + 1, by omega, by have := HG.out; omega, by go_num, hO5, HB5⟩
          · obtain rfl : j = n := by omega
            have hjj : ¬ (j : Int) < (j : Int) := by omega
            obtain ⟨A1, c1, rfl, hrd1⟩ := hO.reads
            have HRA := Aside0.mk hrd1
            have HBA := Aside0.mk HB
            rw [uptoI_len]
            clear hj hg hO HB hrd1 HG
            go_wp2_with (go_at_call 13; go_loud (refine hln.mono ?_); (intro e W' hWE; obtain ⟨rfl, hWe⟩ := hWE; obtain rfl := hWe.symm; clear hWe))
            clear hln hlt
            generalize wr = W3 at HRA HBA ⊢
            go_loopg [14, 15] (m + 1) (fun gg s14 s15 wr => ∃ (i : Nat) (ps : List Int), i ≤ m ∧ m < gg + i ∧ s15 = .int .i64 i ∧ ps.length = i ∧ Aside0 (∀ x ∈ ps, 0 ≤ x ∧ x < (j : Int)) ∧ OwnI wr W3.heap.size s14 ps ∧ Below W3.heap.size W3 wr)
            case atStart => exact ⟨0, [], by omega, by omega, rfl, rfl, ⟨fun x hx => by cases hx⟩, ownI_nil _ _, Below.refl _ _⟩
            case round =>
              obtain ⟨i, ps, hi, hg, rfl, hpl2, HPI, hO, HB⟩ := hrel
              have hi0 : (0 : Int) ≤ (i : Int) := by omega
              have HG := Aside0.mk (And.intro hi hg)
              have HPL := Aside0.mk hpl2
              by_cases hlt : i < m
              · have hlti : (i : Int) < (m : Int) := by omega
                obtain ⟨ad, rfl, hx⟩ := (HP.out.1.below (below_then HBB.out HBA.out)).at_ i (by have := HL.out; omega)
                have hxb := HP.out.2 (pb.getD i 0) (by rw [List.getD_eq_getElem?_getD, List.getElem?_eq_getElem (by have := HL.out; omega)]; exact List.getElem_mem _)
                have hxl := World.block_lt_of_cell? W3 _ hx
                have HX : Aside0 (∀ WW, Below W3.heap.size W3 WW → WW.cell? (ad.add i) = some (.int .u8 (pb.getD i 0))) := ⟨fun WW h => (h.cell hxl).trans hx⟩
                generalize pb.getD i 0 = y at hxb HX hx
                obtain ⟨hy0, hy1⟩ := hxb
                have hj1 : ¬ (j : Int) = 0 := by have := HNZ.out.1; omega
                have hwr : IntKind.i64.wrap y = y := wrap_id y (by omega) (by omega)
                have hmod0 : 0 ≤ Int.tmod y j := Int.tmod_nonneg _ hy0
                have hmod1 : Int.tmod y j < j := Int.tmod_lt_of_pos _ (by omega)
                have HMD := Aside0.mk (And.intro hmod0 hmod1)
                have HLEN2 : Aside0 (∀ W, Below W3.heap.size W3 W → Calls Try.prog 13 #[.pointer (some ⟨b, 0, none⟩)] W fun e w' => e = .returned (.int .i64 (j : Int)) ∧ w' = W) := ⟨fun W h => HLEN.out W (below_then HBA.out h)⟩
                have HO := Aside0.mk hO
                have HBX := Aside0.mk HB
                clear hi hg hpl2 hO HB hx hxl hmod0 hmod1
                go_upto_region 14 with (fail)
                refine wp_region_held_drew (S := (fun WW => Below W3.heap.size W3 WW)) (by kernel_rfl) ?_ (fun hHeld => ?_)
                · (repeat (first | exact HB5 | exact HBX.out | exact Below.refl _ _ | apply below_drew | apply below_more))
                refine take_in (i := 0) (v := ?v0a) rfl (by kernel_rfl) (by kernel_rfl) (by kernel_rfl) (fun _ _ _ h => h) (by rfl) ?hy0a (by assumption) ?_
                case hy0a => intro WW hSw; (try dsimp only at hSw); go_simp; try with_reducible rfl
                try simp only [Act.put, List.setIfInBounds_toArray, List.set_cons_zero, List.set_cons_succ]
                refine take_in (i := 1) (v := ?v1a) rfl (by kernel_rfl) (by kernel_rfl) (by kernel_rfl) (fun _ _ _ h => h) (by rfl) ?hy1a (by assumption) ?_
                case hy1a => intro WW hSw; (try dsimp only at hSw); go_simp; try with_reducible rfl
                try simp only [Act.put, List.setIfInBounds_toArray, List.set_cons_zero, List.set_cons_succ]
                refine take_in (i := 2) (v := ?v2a) rfl (by kernel_rfl) (by kernel_rfl) (by kernel_rfl) (fun _ _ _ h => h) (by rfl) ?hy2a (by assumption) ?_
                case hy2a => intro WW hSw; (try dsimp only at hSw); go_simp; try with_reducible rfl
                try simp only [Act.put, List.setIfInBounds_toArray, List.set_cons_zero, List.set_cons_succ]
                refine take_in (i := 3) (v := ?v3a) rfl (by kernel_rfl) (by kernel_rfl) (by kernel_rfl) (fun _ _ _ h => h) (by rfl) ?hy3a (by assumption) ?_
                case hy3a => intro WW hSw; (try dsimp only at hSw); go_simp; try with_reducible rfl
                try simp only [Act.put, List.setIfInBounds_toArray, List.set_cons_zero, List.set_cons_succ]
                refine take_in (i := 4) (v := .int .u8 y) rfl (by kernel_rfl) (by kernel_rfl) (by kernel_rfl) (fun _ _ _ h => h) (by rfl) ?hy4a (by assumption) ?_
                case hy4a => intro WW hSw; have hh := HX.out WW hSw; go_simp; try with_reducible rfl
                try simp only [Act.put, List.setIfInBounds_toArray, List.set_cons_zero, List.set_cons_succ]
                refine take_in (i := 5) (v := .int .i64 y) rfl (by kernel_rfl) (by kernel_rfl) (by kernel_rfl) (fun _ _ _ h => h) (by rfl) ?hy5a (by assumption) ?_
                case hy5a => intro WW hSw; have hh := hwr; go_simp; try with_reducible rfl
                try simp only [Act.put, List.setIfInBounds_toArray, List.set_cons_zero, List.set_cons_succ]
                refine take_in (i := 6) (v := ?v6a) rfl (by kernel_rfl) (by kernel_rfl) (by kernel_rfl) (fun _ _ _ h => h) (by rfl) ?hy6a (by assumption) ?_
                case hy6a => intro WW hSw; (try dsimp only at hSw); go_simp; try with_reducible rfl
                try simp only [Act.put, List.setIfInBounds_toArray, List.set_cons_zero, List.set_cons_succ]
                refine one_step (i := 7) (by kernel_rfl) rfl (fun K hK => ?_)
                go_simp
                go_at_call 13
                go_loud (refine (HLEN2.out _ (by (repeat (first | exact HB5 | exact HBX.out | exact Below.refl _ _ | apply below_drew | apply below_more)))).mono ?_)
                (intro e W' hWE; obtain ⟨rfl, hWe⟩ := hWE; obtain rfl := hWe.symm; clear hWe)
                refine hK.out _ _ ?_ (fun hHeld => ?_)
                · (repeat (first | exact HB5 | exact HBX.out | exact Below.refl _ _ | apply below_drew | apply below_more))
                clear hK K
                try simp only [Act.put, List.setIfInBounds_toArray, List.set_cons_zero, List.set_cons_succ]
                refine take_in (i := 8) (v := .int .i64 (Int.tmod y j)) rfl (by kernel_rfl) (by kernel_rfl) (by kernel_rfl) (fun _ _ _ h => h) (by rfl) ?hy8a (by assumption) ?_
                case hy8a => intro WW hSw; have hh := hj1; have h2 := HNZ.out.1; go_simp; try with_reducible rfl
                try simp only [Act.put, List.setIfInBounds_toArray, List.set_cons_zero, List.set_cons_succ]
                refine one_step (i := 9) (by kernel_rfl) rfl (fun K hK => ?_)
                go_simp
                refine hK.out _ _ ?_ (fun hHeld => ?_)
                · (repeat (first | exact HB5 | exact HBX.out | exact Below.refl _ _ | apply below_drew | apply below_more))
                clear hK K
                try simp only [Act.put, List.setIfInBounds_toArray, List.set_cons_zero, List.set_cons_succ]
                refine one_step (i := 10) (by kernel_rfl) rfl (fun K hK => ?_)
                refine of_if (by rfl) ?_
                refine append_intO (.tmp 72) (.tmp 81) rfl W3.heap.size u14 ps rfl (HO.out.below (by (repeat (first | exact HB5 | exact HBX.out | exact Below.refl _ _ | apply below_drew | apply below_more)))) (by have := HBX.out.size; simp; omega) wr.heap.size 1 (Int.tmod y j) rfl ?hcc (by have := HPL.out; omega) ?_
                case hcc => exact cell_first _ _ _
                intro v5 W5 hO5 hg5 hat5
                have HB5 : Below W3.heap.size W3 W5 := below_grow (w0 := W3) (by (repeat (first | exact HBX.out | exact Below.refl _ _ | apply below_drew | apply below_more))) (Nat.le_refl _) hg5 (fun k e => (HO.out.lt k e).1)
                clear hg5 hat5
                refine hK.out _ _ ?_ (fun hHeld => ?_)
                · (repeat (first | exact HB5 | exact HBX.out | exact Below.refl _ _ | apply below_drew | apply below_more))
                clear hK K
                try simp only [Act.put, List.setIfInBounds_toArray, List.set_cons_zero, List.set_cons_succ]
                refine take_in (i := 11) (v := ?v11a) rfl (by kernel_rfl) (by kernel_rfl) (by kernel_rfl) (fun _ _ _ h => h) (by rfl) ?hy11a (by assumption) ?_
                case hy11a => intro WW hSw; (try dsimp only at hSw); go_simp; try with_reducible rfl
                try simp only [Act.put, List.setIfInBounds_toArray, List.set_cons_zero, List.set_cons_succ]
                refine wpAnyH_done (by kernel_rfl) ?_ _
                have HO5 := Aside0.mk hO5
                have HPI2 := Aside0.mk (in_snoc HPI.out HMD.out.1 HMD.out.2)
                clear hO5
                go_wp2
                go_roundg (gk - 1)
                case measure => have := HG.out; omega
                case rel => exact ⟨i + 1, _, by omega, by have := HG.out; omega, by go_num, by rw [List.length_append, HPL.out]; rfl, HPI2, HO5.out, (by repeat (first | exact HB5 | apply below_drew))⟩
              · obtain rfl : i = m := by omega
                have hii : ¬ (i : Int) < (i : Int) := by omega
                have him : 0 < i := by have := HNZ.out.2; omega
                obtain ⟨A2, c2, rfl, hrd2⟩ := hO.reads
                obtain ⟨ad2, rfl, _⟩ := hrd2.at_ 0 (by omega)
                have HR2 := Aside0.mk hrd2
                have HB2 := Aside0.mk HB
                rw [HPL.out]
                clear hi hg hpl2 hO HB hrd2 HG hlt
                go_wp2
                clear hii
                generalize wr = W4 at HR2 HB2 ⊢
                go_loopg [16, 17, 18] (m2 + 1) (fun gg s16 s17 s18 wr => ∃ (q : Nat) (qs bs : List Int), q ≤ m2 ∧ m2 < gg + q ∧ s18 = .int .i64 q ∧ qs.length = q ∧ bs.length = q ∧ Aside0 (∀ t, t < qs.length → 0 ≤ qs.getD t 0 ∧ qs.getD t 0 < (i : Int) ∧ bs.getD t 0 = ps.getD (qs.getD t 0).toNat 0) ∧ OwnI wr W4.heap.size s16 qs ∧ OwnI wr W4.heap.size s17 bs ∧ Aside0 (∀ k, s16.ownBlock = some k → s17.ownBlock ≠ some k) ∧ Below W4.heap.size W4 wr)
                case atStart => exact ⟨0, [], [], by omega, by omega, rfl, rfl, rfl, ⟨fun t ht => absurd ht (by simp)⟩, ownI_nil _ _, ownI_nil _ _, ⟨fun k e => by cases e⟩, Below.refl _ _⟩
                case round =>
                  obtain ⟨q, qs, bs, hq, hg, rfl, hql2, hbl2, HQI, hO, hO2, HDJ, HB⟩ := hrel
                  have hq0 : (0 : Int) ≤ (q : Int) := by omega
                  have HG := Aside0.mk (And.intro hq hg)
                  have HQL := Aside0.mk (And.intro hql2 hbl2)
                  have HB3 : Aside0 (Below w.heap.size w W4) := ⟨below_then (below_then HBB.out HBA.out) HB2.out⟩
                  by_cases hlt : q < m2
                  · have hlti : (q : Int) < (m2 : Int) := by omega
                    obtain ⟨ad, rfl, hx⟩ := (HQ.out.1.below (below_then HB3.out HB)).at_ q (by have := HL.out; omega)
                    have hxb := HQ.out.2 (qb.getD q 0) (by rw [List.getD_eq_getElem?_getD, List.getElem?_eq_getElem (by have := HL.out; omega)]; exact List.getElem_mem _)
                    generalize qb.getD q 0 = y at hxb hx
                    obtain ⟨hy0, hy1⟩ := hxb
                    have hwr : IntKind.i64.wrap y = y := wrap_id y (by omega) (by omega)
                    have hi1 : ¬ (i : Int) = 0 := by omega
                    have hi2 : ¬ i = 0 := by omega
                    have hi9 : (i : Int) ≤ 1048576 := by omega
                    obtain ⟨t, ht⟩ : ∃ t : Nat, Int.tmod y i = (t : Int) := ⟨(Int.tmod y i).toNat, by have := Int.tmod_nonneg (i : Int) hy0; omega⟩
                    have hti : t < i := by have := Int.tmod_lt_of_pos y (show (0 : Int) < (i : Int) by omega); omega
                    have hti2 : (t : Int) < (i : Int) := by omega
                    have ht0 : (0 : Int) ≤ (t : Int) := by omega
                    have hpt := HR2.out.at_ t (by rw [HPL.out]; exact hti)
                    obtain ⟨ad3, e3, hpt⟩ := hpt
                    cases e3
                    have hptl := World.block_lt_of_cell? W4 _ hpt
                    have HPT : Aside0 (∀ WW, Below W4.heap.size W4 WW → WW.cell? (ad2.add t) = some (.int .i64 (ps.getD t 0))) := ⟨fun WW h => (h.cell hptl).trans hpt⟩
                    have HO := Aside0.mk hO
                    have HO2 := Aside0.mk hO2
                    have HBX := Aside0.mk HB
                    obtain ⟨z, hz⟩ : ∃ z, z = ps.getD t 0 := ⟨_, rfl⟩
                    rw [← hz] at HPT
                    have HZ := Aside0.mk hz
                    clear hq hg hql2 hbl2 hO hO2 HB hpt hptl hz
                    go_upto_region 21 with (fail)
                    go_wp2_with (at_builtin; go_loud (refine append_int1 rfl (.tmp 97) (.tmp 99) rfl W4.heap.size u16 qs rfl (t : Int) (HO.out.below (below_more (Below.refl _ _) _)) HBX.out.size rfl (by have := HQL.out.1; omega) ?_))
                    intro v5 W5 hO5 hg5 hat5
                    have HB5 := Aside0.mk (below_app HBX.out HO.out hg5)
                    have HO25 : Aside0 (OwnI W5 W4.heap.size u17 bs) := ⟨(HO2.out.below (below_more (Below.refl _ _) _)).grown hg5 (fun k e e2 => HDJ.out k e2.symm e)⟩
                    have HDJ5 : Aside0 (∀ k, v5.ownBlock = some k → u17.ownBlock ≠ some k) := ⟨fun k e e2 => by
                      rcases hat5 with h | h
                      · rw [h] at e; exact HDJ.out k e e2
                      · rw [h] at e; have := (HO2.out.lt k e2).2; simp only [Option.some.injEq] at e; omega⟩
                    have HO5 := Aside0.mk hO5
                    have hpt := HPT.out W5 HB5.out
                    clear hO5 hg5 hat5 hx
                    go_upto_region 22 with (fail)
                    go_wp2_with (at_builtin; go_loud (refine append_int1 (W := W5) rfl (.tmp 101) (.tmp 106) rfl W4.heap.size u17 bs rfl z (HO25.out.below (below_more (Below.refl _ _) _)) HB5.out.size rfl (by have := HQL.out.2; omega) ?_))
                    intro v6 W6 hO6 hg6 hat6
                    have HB6 := Aside0.mk (below_app HB5.out HO25.out hg6)
                    have HO56 : Aside0 (OwnI W6 W4.heap.size v5 (qs ++ [(t : Int)])) := ⟨(HO5.out.below (below_more (Below.refl _ _) _)).grown hg6 (fun k e e2 => HDJ5.out k e e2.symm)⟩
                    have HDJ6 : Aside0 (∀ k, v5.ownBlock = some k → v6.ownBlock ≠ some k) := ⟨fun k e e2 => by
                      rcases hat6 with h | h
                      · rw [h] at e2; exact HDJ5.out k e e2
                      · rw [h] at e2; have := (HO5.out.lt k e).2; simp only [Option.some.injEq] at e2; omega⟩
                    have HO6 := Aside0.mk hO6
                    have HQI6 : Aside0 (∀ t', t' < (qs ++ [(t : Int)]).length → 0 ≤ (qs ++ [(t : Int)]).getD t' 0 ∧ (qs ++ [(t : Int)]).getD t' 0 < (i : Int) ∧ (bs ++ [z]).getD t' 0 = ps.getD ((qs ++ [(t : Int)]).getD t' 0).toNat 0) := ⟨fun t' h => by
                      obtain ⟨l1, l2⟩ := HQL.out
                      rw [List.length_append, List.length_cons, List.length_nil] at h
                      by_cases hlt' : t' < qs.length
                      · rw [getD_snoc_lt _ _ _ _ hlt', getD_snoc_lt _ _ _ _ (by omega)]
                        exact HQI.out t' hlt'
                      · obtain rfl : t' = qs.length := by omega
                        have e : bs.length = qs.length := by omega
                        rw [getD_snoc_eq, ← e, getD_snoc_eq, Int.toNat_natCast, HZ.out]
                        exact ⟨ht0, hti2, rfl⟩⟩
                    have HQL6 : Aside0 ((qs ++ [(t : Int)]).length = q + 1 ∧ (bs ++ [z]).length = q + 1) := ⟨by rw [List.length_append, List.length_append, HQL.out.1, HQL.out.2]; exact ⟨rfl, rfl⟩⟩
                    clear hO6 hg6 hat6 hpt
                    go_wp2
                    go_roundg (gk - 1)
                    case measure => have := HG.out; omega
                    case rel => exact ⟨q + 1, _, _, by omega, by have := HG.out; omega, by go_num, HQL6.out.1, HQL6.out.2, HQI6, HO56.out, HO6.out, HDJ6, HB6.out⟩
                  · obtain rfl : q = m2 := by omega
                    have hqq : ¬ (q : Int) < (q : Int) := by omega
                    have hq1 : q ≤ 1048576 := by omega
                    obtain ⟨A3, c3, rfl, hrd3⟩ := hO.reads
                    obtain ⟨A4, c4, rfl, hrd4⟩ := hO2.reads
                    have HR3 := Aside0.mk hrd3
                    have HR4 := Aside0.mk hrd4
                    have HWX := Aside0.mk (below_then HB2.out HB)
                    have HWW := Aside0.mk (below_then HB3.out HB)
                    have HB4 := Aside0.mk HB
                    rw [HQL.out.1, HQL.out.2]
                    clear hq hg hql2 hbl2 hO hO2 hrd3 hrd4 HG HDJ HB hlt
                    -- the columns that are gathered
                    have HIQ : Aside0 (∀ x ∈ qs, 0 ≤ x ∧ x < (i : Int)) := ⟨fun x hx => by
                      obtain ⟨t, ht, rfl⟩ := List.getElem_of_mem hx
                      have h1 := HQI.out t ht
                      rw [List.getD_eq_getElem?_getD, List.getElem?_eq_getElem ht] at h1
                      exact ⟨h1.1, h1.2.1⟩⟩
                    have HIB : Aside0 (∀ x ∈ bs, 0 ≤ x ∧ x < (j : Int)) := ⟨fun x hx => by
                      obtain ⟨t, ht, rfl⟩ := List.getElem_of_mem hx
                      have l := HQL.out
                      obtain ⟨h0, h1, h2⟩ := HQI.out t (by omega)
                      rw [List.getD_eq_getElem?_getD, List.getElem?_eq_getElem ht] at h2
                      have h3 := HPI.out (ps.getD (qs.getD t 0).toNat 0) (by rw [List.getD_eq_getElem?_getD, List.getElem?_eq_getElem (by have := HPL.out; omega)]; exact List.getElem_mem _)
                      rw [← h2] at h3
                      exact h3⟩
                    have CV0 := Aside0.mk (HC.out.below (below_then HBA.out HWX.out))
                    have RL0 := Aside0.mk (HR.out.below HWW.out)
                    have RA0 := Aside0.mk (HRA.out.below HWX.out)
                    have RP0 := Aside0.mk (HR2.out.below HB4.out)
                    have RQ0 := HR3
                    have RB0 := HR4
                    have BB0 := HWW
                    have HTW : Aside0 (∀ (xs ys zs ws : List V5), EqR ys (ps.map fun i => vs.getD i.toNat V5.zero) → EqR zs (qs.map fun i => ys.getD i.toNat V5.zero) → EqR ws (bs.map fun i => vs.getD i.toNat V5.zero) → EqR zs ws) := ⟨fun xs ys zs ws h1 h2 h3 => eqR_twice h1 h2 h3 (by have := HQL.out; omega) (fun t ht => by have h := HQI.out t ht; have := HPL.out; exact ⟨h.1, by omega, h.2.2⟩)⟩
                    clear HR3 HR4 HRA HR2 HQI HWX HB4 HWW HC HLEN
                    generalize wr = V0 at CV0 RL0 RA0 RP0 RQ0 RB0 BB0 ⊢
                    have HCL := Aside0.mk (CV0.out.gather HK.out (by have := HL.out; omega) A1 (uptoI j) c1 RA0.out (fun x hx => by rw [← HL.out.1]; exact uptoI_in j x hx) (by rw [uptoI_len]; omega))
                    rw [uptoI_len] at HCL
                    go_wp2_with (go_at_call 24; go_loud (refine HCL.out.mono ?_))
                    first
                      | (intro e V1 h; have h : ∃ (bx : Nat) (us : List V5), _ := h; obtain ⟨bx, xs, he, hqx, hCx, hb⟩ := h; subst he)
                      | (intro e V1 bx he xs hqx hCx hb; subst he)
                    have CV1 := Aside0.mk (CV0.out.below hb)
                    have RL1 := Aside0.mk (RL0.out.below hb)
                    have RA1 := Aside0.mk (RA0.out.below hb)
                    have RP1 := Aside0.mk (RP0.out.below hb)
                    have RQ1 := Aside0.mk (RQ0.out.below hb)
                    have RB1 := Aside0.mk (RB0.out.below hb)
                    have BB1 := Aside0.mk (below_then BB0.out hb)
                    clear HCL hb CV0 RL0 RA0 RP0 RQ0 RB0 BB0
                    have CX1 := Aside0.mk hCx
                    have QX := Aside0.mk (eqR_all (by rw [uptoI_len]; exact HL.out.1) (fun t ht => uptoI_at j t (by rwa [uptoI_len] at ht)) hqx)
                    clear hCx hqx
                    have HCL := Aside0.mk (CV1.out.gather HK.out (by have := HL.out; omega) (some ad2) ps c2 RP1.out (fun x hx => by rw [← HL.out.1]; exact HPI.out x hx) (by have := HPL.out; omega))
                    rw [HPL.out] at HCL
                    go_wp2_with (go_at_call 24; go_loud (refine HCL.out.mono ?_))
                    first
                      | (intro e V2 h; have h : ∃ (bx : Nat) (us : List V5), _ := h; obtain ⟨by_, ys, he, hqy, hCy, hb⟩ := h; subst he)
                      | (intro e V2 by_ he ys hqy hCy hb; subst he)
                    have CV2 := Aside0.mk (CV1.out.below hb)
                    have RL2 := Aside0.mk (RL1.out.below hb)
                    have RP2 := Aside0.mk (RP1.out.below hb)
                    have RQ2 := Aside0.mk (RQ1.out.below hb)
                    have RB2 := Aside0.mk (RB1.out.below hb)
                    have CX2 := Aside0.mk (CX1.out.below hb)
                    have BB2 := Aside0.mk (below_then BB1.out hb)
                    clear HCL hb CV1 RL1 RP1 RQ1 RB1 CX1 BB1
                    have CY2 := Aside0.mk hCy
                    have QY := Aside0.mk hqy
                    have LY : Aside0 (ys.length = i) := ⟨by rw [hqy.1, List.length_map]; exact HPL.out⟩
                    clear hCy hqy
                    have HCL := Aside0.mk (CY2.out.gather HK.out (by have := LY.out; omega) A3 qs c3 RQ2.out (fun x hx => by rw [LY.out]; exact HIQ.out x hx) (by have := HQL.out; omega))
                    rw [HQL.out.1] at HCL
                    go_wp2_with (go_at_call 24; go_loud (refine HCL.out.mono ?_))
                    first
                      | (intro e V3 h; have h : ∃ (bx : Nat) (us : List V5), _ := h; obtain ⟨bz, zs, he, hqz, hCz, hb⟩ := h; subst he)
                      | (intro e V3 bz he zs hqz hCz hb; subst he)
                    have CV3 := Aside0.mk (CV2.out.below hb)
                    have RL3 := Aside0.mk (RL2.out.below hb)
                    have RQ3 := Aside0.mk (RQ2.out.below hb)
                    have RB3 := Aside0.mk (RB2.out.below hb)
                    have CX3 := Aside0.mk (CX2.out.below hb)
                    have CY3 := Aside0.mk (CY2.out.below hb)
                    have BB3 := Aside0.mk (below_then BB2.out hb)
                    clear HCL hb CV2 RL2 RQ2 RB2 CX2 CY2 BB2
                    have CZ3 := Aside0.mk hCz
                    have QZ := Aside0.mk hqz
                    have LZ : Aside0 (zs.length = q) := ⟨by rw [hqz.1, List.length_map]; exact HQL.out.1⟩
                    clear hCz hqz
                    have HCL := Aside0.mk (CV3.out.gather HK.out (by have := HL.out; omega) A4 bs c4 RB3.out (fun x hx => by rw [← HL.out.1]; exact HIB.out x hx) (by have := HQL.out; omega))
                    rw [HQL.out.2] at HCL
                    go_wp2_with (go_at_call 24; go_loud (refine HCL.out.mono ?_))
                    first
                      | (intro e V4 h; have h : ∃ (bx : Nat) (us : List V5), _ := h; obtain ⟨bw, ws, he, hqw, hCw, hb⟩ := h; subst he)
                      | (intro e V4 bw he ws hqw hCw hb; subst he)
                    have CV4 := Aside0.mk (CV3.out.below hb)
                    have RL4 := Aside0.mk (RL3.out.below hb)
                    have RB4 := Aside0.mk (RB3.out.below hb)
                    have CX4 := Aside0.mk (CX3.out.below hb)
                    have CZ4 := Aside0.mk (CZ3.out.below hb)
                    have BB4 := Aside0.mk (below_then BB3.out hb)
                    clear HCL hb CV3 RL3 RB3 CX3 CZ3 BB3
                    have CW4 := Aside0.mk hCw
                    have QW := Aside0.mk (HTW.out xs ys zs ws QY.out QZ.out hqw)
                    have LW : Aside0 (ws.length = q) := ⟨by rw [hqw.1, List.length_map]; exact HQL.out.2⟩
                    clear hCw hqw QY QZ
                    have HCL := Aside0.mk (CX4.out.values HK.out (by have := QX.out.1; have := HL.out; omega))
                    go_wp2_with (go_at_call 23; go_loud (refine HCL.out.mono ?_))
                    rintro e V5 ⟨rv, v1, rfl, hO, hqq, hlw, hb⟩
                    have CV5 := Aside0.mk (CV4.out.below hb)
                    have RL5 := Aside0.mk (RL4.out.below hb)
                    have CX5 := Aside0.mk (CX4.out.below hb)
                    have CZ5 := Aside0.mk (CZ4.out.below hb)
                    have CW5 := Aside0.mk (CW4.out.below hb)
                    have BB5 := Aside0.mk (below_then BB4.out hb)
                    clear HCL hb CV4 RL4 CX4 CZ4 CW4 BB4
                    obtain ⟨Av1, cv1, rfl, hrd⟩ := hO.reads
                    have Rv15 := Aside0.mk hrd
                    have Qv1 := Aside0.mk hqq
                    clear hO hrd hqq hlw
                    have HCL := Aside0.mk (CV5.out.values HK.out (by have := HL.out; omega))
                    go_wp2_with (go_at_call 23; go_loud (refine HCL.out.mono ?_))
                    rintro e V6 ⟨rv, v2, rfl, hO, hqq, hlw, hb⟩
                    have CV6 := Aside0.mk (CV5.out.below hb)
                    have RL6 := Aside0.mk (RL5.out.below hb)
                    have CZ6 := Aside0.mk (CZ5.out.below hb)
                    have CW6 := Aside0.mk (CW5.out.below hb)
                    have Rv16 := Aside0.mk (Rv15.out.below hb)
                    have BB6 := Aside0.mk (below_then BB5.out hb)
                    clear HCL hb CV5 RL5 CZ5 CW5 Rv15 BB5
                    obtain ⟨Av2, cv2, rfl, hrd⟩ := hO.reads
                    have Rv26 := Aside0.mk hrd
                    have Qv2 := Aside0.mk hqq
                    clear hO hrd hqq hlw
                    have HCL := Aside0.mk (samerow_any Av1 v1 cv1 Av2 v2 cv2 V6 Rv16.out Rv26.out (eqR_trans Qv1.out (eqR_trans QX.out (eqR_symm Qv2.out))))
                    go_wp2_with (go_at_call 22; go_loud (refine HCL.out.mono ?_))
                    rintro e V7 ⟨rfl, hb⟩
                    have CV7 := Aside0.mk (CV6.out.below hb)
                    have RL7 := Aside0.mk (RL6.out.below hb)
                    have CZ7 := Aside0.mk (CZ6.out.below hb)
                    have CW7 := Aside0.mk (CW6.out.below hb)
                    have Rv17 := Aside0.mk (Rv16.out.below hb)
                    have Rv27 := Aside0.mk (Rv26.out.below hb)
                    have BB7 := Aside0.mk (below_then BB6.out hb)
                    clear HCL hb CV6 RL6 CZ6 CW6 Rv16 Rv26 BB6
                    have HCL := Aside0.mk (CZ7.out.values HK.out (by have := LZ.out; omega))
                    go_wp2_with (go_at_call 23; go_loud (refine HCL.out.mono ?_))
                    rintro e V8 ⟨rv, v3, rfl, hO, hqq, hlw, hb⟩
                    have CV8 := Aside0.mk (CV7.out.below hb)
                    have RL8 := Aside0.mk (RL7.out.below hb)
                    have CZ8 := Aside0.mk (CZ7.out.below hb)
                    have CW8 := Aside0.mk (CW7.out.below hb)
                    have BB8 := Aside0.mk (below_then BB7.out hb)
                    clear HCL hb CV7 RL7 CZ7 CW7 BB7
                    obtain ⟨Av3, cv3, rfl, hrd⟩ := hO.reads
                    have Rv38 := Aside0.mk hrd
                    have Qv3 := Aside0.mk hqq
                    clear hO hrd hqq hlw
                    have HCL := Aside0.mk (CW8.out.values HK.out (by have := LW.out; omega))
                    go_wp2_with (go_at_call 23; go_loud (refine HCL.out.mono ?_))
                    rintro e V9 ⟨rv, v4, rfl, hO, hqq, hlw, hb⟩
                    have CV9 := Aside0.mk (CV8.out.below hb)
                    have RL9 := Aside0.mk (RL8.out.below hb)
                    have CW9 := Aside0.mk (CW8.out.below hb)
                    have Rv39 := Aside0.mk (Rv38.out.below hb)
                    have BB9 := Aside0.mk (below_then BB8.out hb)
                    clear HCL hb CV8 RL8 CW8 Rv38 BB8
                    obtain ⟨Av4, cv4, rfl, hrd⟩ := hO.reads
                    have Rv49 := Aside0.mk hrd
                    have Qv4 := Aside0.mk hqq
                    clear hO hrd hqq hlw
                    have HCL := Aside0.mk (samerow_any Av3 v3 cv3 Av4 v4 cv4 V9 Rv39.out Rv49.out (eqR_trans Qv3.out (eqR_trans QW.out (eqR_symm Qv4.out))))
                    go_wp2_with (go_at_call 22; go_loud (refine HCL.out.mono ?_))
                    rintro e V10 ⟨rfl, hb⟩
                    have CV10 := Aside0.mk (CV9.out.below hb)
                    have RL10 := Aside0.mk (RL9.out.below hb)
                    have Rv310 := Aside0.mk (Rv39.out.below hb)
                    have Rv410 := Aside0.mk (Rv49.out.below hb)
                    have BB10 := Aside0.mk (below_then BB9.out hb)
                    clear HCL hb CV9 RL9 Rv39 Rv49 BB9
                    have HCL := Aside0.mk (CV10.out.values HK.out (by have := HL.out; omega))
                    go_wp2_with (go_at_call 23; go_loud (refine HCL.out.mono ?_))
                    rintro e V11 ⟨rv, v5, rfl, hO, hqq, hlw, hb⟩
                    have CV11 := Aside0.mk (CV10.out.below hb)
                    have RL11 := Aside0.mk (RL10.out.below hb)
                    have BB11 := Aside0.mk (below_then BB10.out hb)
                    clear HCL hb CV10 RL10 BB10
                    obtain ⟨Av5, cv5, rfl, hrd⟩ := hO.reads
                    have Rv511 := Aside0.mk hrd
                    have Qv5 := Aside0.mk hqq
                    clear hO hrd hqq hlw
                    have HCL := Aside0.mk (samerow_any Av5 v5 cv5 A vs c V11 Rv511.out RL11.out Qv5.out)
                    rw [← HL.out.1] at HCL
                    go_wp2_with (go_at_call 22; go_loud (refine HCL.out.mono ?_))
                    rintro e V12 ⟨rfl, hb⟩
                    have RL12 := Aside0.mk (RL11.out.below hb)
                    have Rv512 := Aside0.mk (Rv511.out.below hb)
                    have BB12 := Aside0.mk (below_then BB11.out hb)
                    clear HCL hb RL11 Rv511 BB11
                    go_wp2
                    go_ret
                    exact ⟨rfl, BB12.out⟩
  · go_wp2
    go_ret
    exact ⟨rfl, HB2⟩
end Go.Proofs.Ytbdbcbpcekpcoaa
