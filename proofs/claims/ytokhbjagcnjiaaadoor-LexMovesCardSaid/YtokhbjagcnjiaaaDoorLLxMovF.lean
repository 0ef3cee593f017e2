/- The walk of the law LexMoves, where the blank is byte 32. -/
import Derived.Test.YtokhbjagcnjiaaaDoorLLxMov0
import Derived.Test.YtokhbjagcnjiaaaDoorRegS
import Derived.Deep.Cut
set_option linter.unusedVariables false
set_option linter.unusedSimpArgs false
namespace Go.Proofs.YtokhbjagcnjiaaaDoor
open Go.RowKit

set_option maxRecDepth 100000 in
set_option maxHeartbeats 16000000 in
theorem moves_false (s : ByteArray) (z : Int) (w : World) (hs : s.size ≤ 9223372036854775807) (hz0 : 0 ≤ z) (hz1 : z ≤ 255) (hk : KeysLie w) (hU : Lib.Utf8Tabs 1 2 w) :
    Calls Tryd.prog 3 #[.string s, .int .u8 z, .bool false] w fun e w' => e = .returned (.bool true) ∧ Below w.heap.size w w' := by
  have hH := head_any w hk hU
  obtain ⟨k, hkz⟩ : ∃ k : Nat, (k : Int) = z % 9 := ⟨(z % 9).toNat, by omega⟩
  have hk8 : k ≤ 8 := by omega
  have hk0 : (0 : Int) ≤ (k : Int) := by omega
  have hk9 : (k : Int) ≤ 8 := by omega
  have hzt : z.tmod 9 = (k : Int) := by rw [hkz]; exact Int.tmod_eq_emod_of_nonneg hz0
  by_cases hbig : 4076 < s.size
  · have hbi : (4076 : Int) < (s.size : Int) := by omega
    clear hk hU hkz
    go_enter Tryd.func3, Tryd.ntmps3
    go_wp2_with (go_at_call 9; refine hH.mono ?_)
    first
      | (intro e W1 he hb1; subst he)
      | rintro e W1 ⟨rfl, hb1⟩
    go_wp2
    go_ret
    exact ⟨rfl, hb1⟩
  have hs1 : s.size ≤ 4076 := by omega
  have hsi : (s.size : Int) ≤ 4076 := by omega
  have hls : s.data.toList.length = s.size := rfl
  obtain ⟨ts, at_, er, p1, p2, p3, p4, p5, p6⟩ := moves_plain s.data.toList k 32 (by omega) hk8 (by decide)
  have hat : (at_ : Int) ≤ 4076 := by omega
  obtain ⟨th, hth⟩ : ∃ th, th = if er = 0 then at_ else at_ + k := ⟨_, rfl⟩
  rw [← hth] at p2
  have hL1 : ∀ W, Below w.heap.size w W → Calls Tryd.prog 10 #[.string s] W fun e w1 => ∃ v, e = .returned (.tuple #[v, .int .i64 (at_ : Nat), .int .i64 er]) ∧ w1.ownsRow (W.heap.size + 1) 29 4 v ts.length (toksCells ts) ∧ Below W.heap.size W w1 := fun W hW => by
    have h := lex_ok s W (by omega) (hk.below hW) (utabs_keep hU hW)
    rw [p1] at h
    exact h
  have hL2 : ∀ W, Below w.heap.size w W → Calls Tryd.prog 10 #[.string (⟨(List.replicate k (32 : UInt8)).toArray⟩ ++ s)] W fun e w1 => ∃ v, e = .returned (.tuple #[v, .int .i64 (th : Nat), .int .i64 er]) ∧ w1.ownsRow (W.heap.size + 1) 29 4 v (ts.map (shT k)).length (toksCells (ts.map (shT k))) ∧ Below W.heap.size W w1 := fun W hW => by
    have e : (⟨(List.replicate k (32 : UInt8)).toArray⟩ ++ s : ByteArray).data.toList = List.replicate k 32 ++ s.data.toList := by simp
    have e2 : (⟨(List.replicate k (32 : UInt8)).toArray⟩ ++ s : ByteArray).size = k + s.size := by
      have h : (⟨(List.replicate k (32 : UInt8)).toArray⟩ ++ s : ByteArray).data.toList.length = (⟨(List.replicate k (32 : UInt8)).toArray⟩ ++ s : ByteArray).size := rfl
      rw [← h, e, List.length_append, List.length_replicate, hls]
    have h := lex_ok (⟨(List.replicate k (32 : UInt8)).toArray⟩ ++ s) W (by omega) (hk.below hW) (utabs_keep hU hW)
    rw [e, p2] at h
    exact h
  obtain ⟨ts3, at3, er3, p7⟩ : ∃ ts3 at3 er3, lexL (s.data.toList ++ [32]) = (ts3, at3, er3) := ⟨_, _, _, rfl⟩
  have hL3 : ∀ W, Below w.heap.size w W → Calls Tryd.prog 10 #[.string (s ++ ⟨#[32]⟩)] W fun e w1 => ∃ v, e = .returned (.tuple #[v, .int .i64 (at3 : Nat), .int .i64 er3]) ∧ w1.ownsRow (W.heap.size + 1) 29 4 v ts3.length (toksCells ts3) ∧ Below W.heap.size W w1 := fun W hW => by
    have e : (s ++ ⟨#[32]⟩ : ByteArray).data.toList = s.data.toList ++ [32] := by simp
    have e2 : (s ++ ⟨#[32]⟩ : ByteArray).size = s.size + 1 := by
      have h : (s ++ ⟨#[32]⟩ : ByteArray).data.toList.length = (s ++ ⟨#[32]⟩ : ByteArray).size := rfl
      rw [← h, e, List.length_append, hls]
      rfl
    have h := lex_ok (s ++ ⟨#[32]⟩) W (by omega) (hk.below hW) (utabs_keep hU hW)
    rw [e, p7] at h
    exact h
  rw [p7] at p3
  have P3 := Aside0.mk p3
  have HTH := Aside0.mk hth
  have P4 := Aside0.mk p4
  have P6 := Aside0.mk p6
  have HSZ : ∀ i, i ≤ 8 → (⟨(List.replicate i (32 : UInt8)).toArray⟩ : ByteArray) ++ ⟨#[32]⟩ = ⟨(List.replicate (i + 1) 32).toArray⟩ := fun i _ => by
    apply ByteArray.ext
    rw [← Array.toList_inj]
    simp [List.replicate_succ']
  have HCAT := Aside0.mk HSZ
  have hbi : (s.size : Int) ≤ 4076 := hsi
  have hbf : ¬ (4076 : Int) < (s.size : Int) := by omega
  clear hth hk hU p1 p2 p3 p4 p5 p6 p7 hkz HSZ hbig
  go_enter Tryd.func3, Tryd.ntmps3
  go_wp2_with (go_at_call 9; refine hH.mono ?_)
  first
    | (intro e W1 he hb1; subst he)
    | rintro e W1 ⟨rfl, hb1⟩
  clear hH
  go_upto_region 9 with (fail)
  go_wp2
  go_loopg [10, 11] 10 (fun gg s10 s11 wr => ∃ i : Nat, i ≤ k ∧ k < gg + i ∧ s11 = .int .i64 i ∧ s10 = .string ⟨(List.replicate i (32 : UInt8)).toArray⟩ ∧ wr = W1)
  case atStart => exact ⟨0, by omega, by omega, rfl, rfl, rfl⟩
  case round =>
    obtain ⟨i, hi, hg, rfl, rfl, rfl⟩ := hrel
    by_cases hlt : i < k
    · have hlti : (i : Int) < (k : Int) := by omega
      have hcat := HCAT.out i (by omega)
      have hAs : (⟨(List.replicate i (32 : UInt8)).toArray⟩ : ByteArray).size ≤ 8 := by
        show (List.replicate i (32 : UInt8)).toArray.size ≤ 8
        simp; omega
      generalize hAi : (⟨(List.replicate i (32 : UInt8)).toArray⟩ : ByteArray) = Ai at hcat hAs ⊢
      have HA := Aside0.mk hAi
      have hcz : Ai.size + 1 ≤ 9223372036854775807 := by omega
      have hi0 : (0 : Int) ≤ (i : Int) := by omega
      clear hAi
      go_wp2
      go_roundg (gk - 1)
      case measure => omega
      case rel => exact ⟨i + 1, by omega, by omega, by go_num, by simp, rfl⟩
    · have hie : i = k := by omega
      subst hie
      clear hlt hi hg
      have hMs : (⟨(List.replicate i (32 : UInt8)).toArray⟩ : ByteArray).size ≤ 8 := by
        show (List.replicate i (32 : UInt8)).toArray.size ≤ 8
        simp; omega
      generalize (⟨(List.replicate i (32 : UInt8)).toArray⟩ : ByteArray) = MV at hL2 hMs ⊢
      have hmz : MV.size + s.size ≤ 9223372036854775807 := by omega
      have hsz : s.size + 1 ≤ 9223372036854775807 := by omega
      clear HCAT
      go_wp2_with (go_at_call 10; refine (hL1 _ hb1).mono ?_)
      first
        | (intro e W2 v2 he ho hb; subst he)
        | rintro e W2 ⟨v2, rfl, ho, hb⟩
      obtain ⟨A2, q2, rfl, hN2, hR2⟩ := toks_held ho
      have hb2 := below_then hb1 hb
      have HR2 := Aside0.mk hR2
      have HK2 := Aside0.mk hb
      clear ho hb hR2
      go_wp2_with (go_at_call 10; refine (hL2 _ hb2).mono ?_)
      first
        | (intro e W3 v3 he ho hb; subst he)
        | rintro e W3 ⟨v3, rfl, ho, hb⟩
      obtain ⟨A3, q3, rfl, hN3, hR3⟩ := toks_held ho
      have hb3 := below_then hb2 hb
      have HR3 := Aside0.mk hR3
      have HK3 := Aside0.mk hb
      clear ho hb hR3
      go_wp2_with (go_at_call 10; refine (hL3 _ hb3).mono ?_)
      first
        | (intro e W4 v4 he ho hb; subst he)
        | rintro e W4 ⟨v4, rfl, ho, hb⟩
      obtain ⟨A4, q4, rfl, hN4, hR4⟩ := toks_held ho
      have hb4 := below_then hb3 hb
      have HR4 := Aside0.mk hR4
      have HK4 := Aside0.mk hb
      clear ho hb hR4
      (try rw [List.length_map] at hN3)
      (try rw [List.length_map])
      clear hL1 hL2 hL3
      by_cases her : er = 0
      · subst her
        obtain ⟨h31, h32⟩ := Prod.mk.inj (P3.out rfl)
        obtain ⟨h32, h33⟩ := Prod.mk.inj h32
        have hth := HTH.out
        rw [if_pos rfl] at hth
        subst h31 h32 h33 hth
        have hrow : ∀ j, j < ts3.length → ∃ ad2 ad3 ad4, A2 = some ad2 ∧ A3 = some ad3 ∧ A4 = some ad4 ∧ Holds4 W4 (ad2.add (j * 4)) (ts3.getD j tok0) ∧ Holds4 W4 (ad3.add (j * 4)) (shT i (ts3.getD j tok0)) ∧ Holds4 W4 (ad4.add (j * 4)) (ts3.getD j tok0) := fun j hj => by
          obtain ⟨ad2, e2, h2⟩ := HR2.out j hj
          obtain ⟨ad3, e3, h3⟩ := HR3.out j (by rw [List.length_map]; exact hj)
          obtain ⟨ad4, e4, h4⟩ := HR4.out j hj
          rw [shT_at _ _ _ hj] at h3
          exact ⟨ad2, ad3, ad4, e2, e3, e4, (h2.kept HK3.out).kept HK4.out, h3.kept HK4.out, h4⟩
        obtain ⟨n, hn⟩ : ∃ n, n = ts3.length := ⟨_, rfl⟩
        (try rw [List.length_map])
        rw [← hn] at hrow hN4 ⊢
        have HN := Aside0.mk hn
        have HX := Aside0.mk hrow
        have P6' := P6.out
        clear HR2 HR3 HR4 HK2 HK3 HK4 P3 P4 HTH hb1 hb2 hb3 hN2 hN3 hn hrow P6'
        go_wp2
        go_loopg [21] (n + 1) (fun gg s21 wr => ∃ j : Nat, j ≤ n ∧ n < gg + j ∧ s21 = .int .i64 j ∧ Below W4.heap.size W4 wr)
        case atStart => exact ⟨0, by omega, by omega, rfl, Below.refl _ _⟩
        case round =>
          obtain ⟨j, hj, hg, rfl, HB⟩ := hrel
          have hj0 : (0 : Int) ≤ (j : Int) := by omega
          by_cases hlt : j < n
          · have hlti : (j : Int) < (n : Int) := by omega
            obtain ⟨ad2, ad3, ad4, e2, e3, e4, h2, h3, h4⟩ := HX.out j hlt
            subst e2 e3 e4
            have h2 := h2.kept HB
            have h3 := h3.kept HB
            have h4 := h4.kept HB
            have hrg := P6.out.range j (by rw [← HN.out]; exact hlt)
            have hpr : ∀ m, m + 1 = j → ∃ K X N P, (∃ ad, some ad2 = some ad ∧ Holds4 W4 (ad.add (m * 4)) (K, X, N, P)) ∧ P < (ts3.getD j tok0).2.2.2 := fun m hm => by
              obtain ⟨ad, _, _, e, _, _, h, _, _⟩ := HX.out m (by omega)
              subst hm
              exact ⟨_, _, _, _, ⟨ad, e, h⟩, P6.out.before m (by rw [← HN.out]; exact hlt)⟩
            generalize ts3.getD j tok0 = t at h2 h3 h4 hrg hpr
            obtain ⟨K, X, N, P⟩ := t
            rw [hls] at hrg
            simp only [shT] at h2 h3 h4 hrg hpr
            obtain ⟨b2, _, c20, c21, c22, c23⟩ := h2
            obtain ⟨b3, _, c30, c31, c32, c33⟩ := h3
            obtain ⟨b4, _, c40, c41, c42, c43⟩ := h4
            simp only at c20 c21 c22 c23 c30 c31 c32 c33 c40 c41 c42 c43
            obtain ⟨hp0, hp1⟩ := hrg
            have hx : ((⟨X.toArray⟩ : ByteArray).toList == (⟨X.toArray⟩ : ByteArray).toList) = true := by simp
            generalize (⟨X.toArray⟩ : ByteArray) = XT at c21 c31 c41 hx
            have HPR := Aside0.mk hpr
            clear hpr
            go_upto_region 22 with (fail)
            obtain ⟨b, hb⟩ : ∃ b, b = wr.heap.size := ⟨_, rfl⟩
            obtain ⟨V1, hV1⟩ : ∃ V1, V1 = wr.alloc (Obj.cells #[.int .i64 K, .string XT, .int .i64 N, .int .i64 P] 29) := ⟨_, rfl⟩
            have hk1 : Below wr.heap.size wr V1 := by rw [hV1]; exact below_more (Below.refl _ _) _
            have hbx : BoxT V1 b #[.int .i64 K, .string XT, .int .i64 N, .int .i64 P] := by rw [hV1, hb]; exact heap_alloc_new wr _
            rw [← hV1, ← hb]
            have hB1 : Below W4.heap.size W4 V1 := below_then HB hk1
            have hbw : W4.heap.size ≤ b := by rw [hb]; exact HB.size
            have c20 := (hk1.cell b2).trans c20
            have c30 := (hk1.cell b3).trans c30
            have c31 := (hk1.cell (p := ⟨(ad3.add (j * 4)).block, (ad3.add (j * 4)).off + 1, none⟩) b3).trans c31
            have c32 := (hk1.cell (p := ⟨(ad3.add (j * 4)).block, (ad3.add (j * 4)).off + 2, none⟩) b3).trans c32
            have c33 := (hk1.cell (p := ⟨(ad3.add (j * 4)).block, (ad3.add (j * 4)).off + 3, none⟩) b3).trans c33
            have c40 := (hk1.cell b4).trans c40
            have c41 := (hk1.cell (p := ⟨(ad4.add (j * 4)).block, (ad4.add (j * 4)).off + 1, none⟩) b4).trans c41
            have c42 := (hk1.cell (p := ⟨(ad4.add (j * 4)).block, (ad4.add (j * 4)).off + 2, none⟩) b4).trans c42
            have c43 := (hk1.cell (p := ⟨(ad4.add (j * 4)).block, (ad4.add (j * 4)).off + 3, none⟩) b4).trans c43
            rw [← hb] at b2 b3 b4
            have hbc := hbx.cells
            have hbf := hbx.free
            have HBb := Aside0.mk hb
            clear hV1 hb
            by_cases hz : j = 0
            · have hjd : ((0 : Int) < (j : Int)) = False := eq_false (by omega)
              have hjn : (j : Int) ≤ 0 := by omega
              have HJ := Aside0.mk hz
              clear HPR hz
              refine wp_region_held_drew (S := (fun WW => (WW.cell? (ad4.add (j * 4)) = some (.int .i64 K) ∧ WW.cell? ⟨(ad4.add (j * 4)).block, (ad4.add (j * 4)).off + 1, none⟩ = some (.string XT) ∧ WW.cell? ⟨(ad4.add (j * 4)).block, (ad4.add (j * 4)).off + 2, none⟩ = some (.int .i64 N) ∧ WW.cell? ⟨(ad4.add (j * 4)).block, (ad4.add (j * 4)).off + 3, none⟩ = some (.int .i64 P)) ∧ (WW.cell? ⟨b, 0, none⟩ = some (.int .i64 K) ∧ WW.cell? ⟨b, 1, none⟩ = some (.string XT) ∧ WW.cell? ⟨b, 2, none⟩ = some (.int .i64 N) ∧ WW.cell? ⟨b, 3, none⟩ = some (.int .i64 P)))) (by kernel_rfl) ?_ (fun hHeld => ?_)
              · exact ⟨⟨c40, c41, c42, c43⟩, ⟨hbc 0, hbc 1, hbc 2, hbc 3⟩⟩
              refine take_in (i := 0) (v := ?v0za) rfl (by kernel_rfl) (by kernel_rfl) (by kernel_rfl) (fun _ _ _ h => h) (by rfl) ?hy0za (by assumption) ?_
              case hy0za => intro WW hSw; (try dsimp only at hSw); go_simp; try with_reducible rfl
              try simp only [Act.put, List.setIfInBounds_toArray, List.set_cons_zero, List.set_cons_succ]
              refine take_in (i := 1) (v := ?v1za) rfl (by kernel_rfl) (by kernel_rfl) (by kernel_rfl) (fun _ _ _ h => h) (by rfl) ?hy1za (by assumption) ?_
              case hy1za => intro WW hSw; (try dsimp only at hSw); go_simp; try with_reducible rfl
              try simp only [Act.put, List.setIfInBounds_toArray, List.set_cons_zero, List.set_cons_succ]
              refine take_in (i := 2) (v := ?v2za) rfl (by kernel_rfl) (by kernel_rfl) (by kernel_rfl) (fun _ _ _ h => h) (by rfl) ?hy2za (by assumption) ?_
              case hy2za => intro WW hSw; (try dsimp only at hSw); go_simp; try with_reducible rfl
              try simp only [Act.put, List.setIfInBounds_toArray, List.set_cons_zero, List.set_cons_succ]
              refine take_in (i := 3) (v := ?v3za) rfl (by kernel_rfl) (by kernel_rfl) (by kernel_rfl) (fun _ _ _ h => h) (by rfl) ?hy3za (by assumption) ?_
              case hy3za => intro WW hSw; (try dsimp only at hSw); go_simp; try with_reducible rfl
              try simp only [Act.put, List.setIfInBounds_toArray, List.set_cons_zero, List.set_cons_succ]
              refine take_in (i := 4) (v := ?v4za) rfl (by kernel_rfl) (by kernel_rfl) (by kernel_rfl) (fun _ _ _ h => h) (by rfl) ?hy4za (by assumption) ?_
              case hy4za => intro WW hSw; (try dsimp only at hSw); go_simp; try with_reducible rfl
              try simp only [Act.put, List.setIfInBounds_toArray, List.set_cons_zero, List.set_cons_succ]
              refine take_in (i := 5) (v := .bool false) rfl (by kernel_rfl) (by kernel_rfl) (by kernel_rfl) (fun _ _ _ h => h) (by rfl) ?hy5za (by assumption) ?_
              case hy5za => intro WW hSw; (try dsimp only at hSw); go_simp; try with_reducible rfl
              try simp only [Act.put, List.setIfInBounds_toArray, List.set_cons_zero, List.set_cons_succ]
              refine take_in (i := 6) (v := ?v6za) rfl (by kernel_rfl) (by kernel_rfl) (by kernel_rfl) (fun _ _ _ h => h) (by rfl) ?hy6za (by assumption) ?_
              case hy6za => intro WW hSw; (try dsimp only at hSw); go_simp; try with_reducible rfl
              try simp only [Act.put, List.setIfInBounds_toArray, List.set_cons_zero, List.set_cons_succ]
              refine take_in (i := 7) (v := ?v7za) rfl (by kernel_rfl) (by kernel_rfl) (by kernel_rfl) (fun _ _ _ h => h) (by rfl) ?hy7za (by assumption) ?_
              case hy7za => intro WW hSw; (try dsimp only at hSw); go_simp; try with_reducible rfl
              try simp only [Act.put, List.setIfInBounds_toArray, List.set_cons_zero, List.set_cons_succ]
              refine take_in (i := 8) (v := .bool false) rfl (by kernel_rfl) (by kernel_rfl) (by kernel_rfl) (fun _ _ _ h => h) (by rfl) ?hy8za (by assumption) ?_
              case hy8za => intro WW hSw; (try dsimp only at hSw); go_simp; try (first | with_reducible rfl | exact HJ.out)
              try simp only [Act.put, List.setIfInBounds_toArray, List.set_cons_zero, List.set_cons_succ]
              refine take_in (i := 9) (v := ?v9za) rfl (by kernel_rfl) (by kernel_rfl) (by kernel_rfl) (fun _ _ _ h => h) (by rfl) ?hy9za (by assumption) ?_
              case hy9za => intro WW hSw; (try dsimp only at hSw); go_simp; try with_reducible rfl
              try simp only [Act.put, List.setIfInBounds_toArray, List.set_cons_zero, List.set_cons_succ]
              refine take_out (i := 10) rfl (by kernel_rfl) (by kernel_rfl) (by kernel_rfl) (fun _ _ _ h => h) (by rfl) (by assumption) ?_
              try simp only [Act.put, List.setIfInBounds_toArray, List.set_cons_zero, List.set_cons_succ]
              refine take_out (i := 11) rfl (by kernel_rfl) (by kernel_rfl) (by kernel_rfl) (fun _ _ _ h => h) (by rfl) (by assumption) ?_
              try simp only [Act.put, List.setIfInBounds_toArray, List.set_cons_zero, List.set_cons_succ]
              refine take_out (i := 12) rfl (by kernel_rfl) (by kernel_rfl) (by kernel_rfl) (fun _ _ _ h => h) (by rfl) (by assumption) ?_
              try simp only [Act.put, List.setIfInBounds_toArray, List.set_cons_zero, List.set_cons_succ]
              refine take_out (i := 13) rfl (by kernel_rfl) (by kernel_rfl) (by kernel_rfl) (fun _ _ _ h => h) (by rfl) (by assumption) ?_
              try simp only [Act.put, List.setIfInBounds_toArray, List.set_cons_zero, List.set_cons_succ]
              refine take_out (i := 14) rfl (by kernel_rfl) (by kernel_rfl) (by kernel_rfl) (fun _ _ _ h => h) (by rfl) (by assumption) ?_
              try simp only [Act.put, List.setIfInBounds_toArray, List.set_cons_zero, List.set_cons_succ]
              refine take_out (i := 15) rfl (by kernel_rfl) (by kernel_rfl) (by kernel_rfl) (fun _ _ _ h => h) (by rfl) (by assumption) ?_
              try simp only [Act.put, List.setIfInBounds_toArray, List.set_cons_zero, List.set_cons_succ]
              refine take_out (i := 16) rfl (by kernel_rfl) (by kernel_rfl) (by kernel_rfl) (fun _ _ _ h => h) (by rfl) (by assumption) ?_
              try simp only [Act.put, List.setIfInBounds_toArray, List.set_cons_zero, List.set_cons_succ]
              refine take_out (i := 17) rfl (by kernel_rfl) (by kernel_rfl) (by kernel_rfl) (fun _ _ _ h => h) (by rfl) (by assumption) ?_
              try simp only [Act.put, List.setIfInBounds_toArray, List.set_cons_zero, List.set_cons_succ]
              refine take_out (i := 18) rfl (by kernel_rfl) (by kernel_rfl) (by kernel_rfl) (fun _ _ _ h => h) (by rfl) (by assumption) ?_
              try simp only [Act.put, List.setIfInBounds_toArray, List.set_cons_zero, List.set_cons_succ]
              refine take_in (i := 19) (v := ?v19za) rfl (by kernel_rfl) (by kernel_rfl) (by kernel_rfl) (fun _ _ _ h => h) (by rfl) ?hy19za (by assumption) ?_
              case hy19za => intro WW hSw; (try dsimp only at hSw); go_simp; try with_reducible rfl
              try simp only [Act.put, List.setIfInBounds_toArray, List.set_cons_zero, List.set_cons_succ]
              refine take_in (i := 20) (v := ?v20za) rfl (by kernel_rfl) (by kernel_rfl) (by kernel_rfl) (fun _ _ _ h => h) (by rfl) ?hy20za (by assumption) ?_
              case hy20za => intro WW hSw; (try dsimp only at hSw); go_simp; try with_reducible rfl
              try simp only [Act.put, List.setIfInBounds_toArray, List.set_cons_zero, List.set_cons_succ]
              refine take_in (i := 21) (v := ?v21za) rfl (by kernel_rfl) (by kernel_rfl) (by kernel_rfl) (fun _ _ _ h => h) (by rfl) ?hy21za (by assumption) ?_
              case hy21za => intro WW hSw; (try dsimp only at hSw); go_simp; try with_reducible rfl
              try simp only [Act.put, List.setIfInBounds_toArray, List.set_cons_zero, List.set_cons_succ]
              refine take_in (i := 22) (v := ?v22za) rfl (by kernel_rfl) (by kernel_rfl) (by kernel_rfl) (fun _ _ _ h => h) (by rfl) ?hy22za (by assumption) ?_
              case hy22za => intro WW hSw; (try dsimp only at hSw); go_simp; try with_reducible rfl
              try simp only [Act.put, List.setIfInBounds_toArray, List.set_cons_zero, List.set_cons_succ]
              refine take_in (i := 23) (v := ?v23za) rfl (by kernel_rfl) (by kernel_rfl) (by kernel_rfl) (fun _ _ _ h => h) (by rfl) ?hy23za (by assumption) ?_
              case hy23za => intro WW hSw; (try dsimp only at hSw); go_simp; try with_reducible rfl
              try simp only [Act.put, List.setIfInBounds_toArray, List.set_cons_zero, List.set_cons_succ]
              refine take_in (i := 24) (v := .bool false) rfl (by kernel_rfl) (by kernel_rfl) (by kernel_rfl) (fun _ _ _ h => h) (by rfl) ?hy24za (by assumption) ?_
              case hy24za => intro WW hSw; (try dsimp only at hSw); go_simp; try (first | with_reducible rfl | (have hF := hp0; simp; omega))
              try simp only [Act.put, List.setIfInBounds_toArray, List.set_cons_zero, List.set_cons_succ]
              refine take_in (i := 25) (v := ?v25za) rfl (by kernel_rfl) (by kernel_rfl) (by kernel_rfl) (fun _ _ _ h => h) (by rfl) ?hy25za (by assumption) ?_
              case hy25za => intro WW hSw; (try dsimp only at hSw); go_simp; try with_reducible rfl
              try simp only [Act.put, List.setIfInBounds_toArray, List.set_cons_zero, List.set_cons_succ]
              refine take_in (i := 26) (v := ?v26za) rfl (by kernel_rfl) (by kernel_rfl) (by kernel_rfl) (fun _ _ _ h => h) (by rfl) ?hy26za (by assumption) ?_
              case hy26za => intro WW hSw; (try dsimp only at hSw); go_simp; try with_reducible rfl
              try simp only [Act.put, List.setIfInBounds_toArray, List.set_cons_zero, List.set_cons_succ]
              refine take_in (i := 27) (v := ?v27za) rfl (by kernel_rfl) (by kernel_rfl) (by kernel_rfl) (fun _ _ _ h => h) (by rfl) ?hy27za (by assumption) ?_
              case hy27za => intro WW hSw; (try dsimp only at hSw); go_simp; try with_reducible rfl
              try simp only [Act.put, List.setIfInBounds_toArray, List.set_cons_zero, List.set_cons_succ]
              refine take_in (i := 28) (v := ?v28za) rfl (by kernel_rfl) (by kernel_rfl) (by kernel_rfl) (fun _ _ _ h => h) (by rfl) ?hy28za (by assumption) ?_
              case hy28za => intro WW hSw; (try dsimp only at hSw); go_simp; try with_reducible rfl
              try simp only [Act.put, List.setIfInBounds_toArray, List.set_cons_zero, List.set_cons_succ]
              refine take_in (i := 29) (v := ?v29za) rfl (by kernel_rfl) (by kernel_rfl) (by kernel_rfl) (fun _ _ _ h => h) (by rfl) ?hy29za (by assumption) ?_
              case hy29za => intro WW hSw; (try dsimp only at hSw); go_simp; try with_reducible rfl
              try simp only [Act.put, List.setIfInBounds_toArray, List.set_cons_zero, List.set_cons_succ]
              refine take_in (i := 30) (v := ?v30za) rfl (by kernel_rfl) (by kernel_rfl) (by kernel_rfl) (fun _ _ _ h => h) (by rfl) ?hy30za (by assumption) ?_
              case hy30za => intro WW hSw; (try dsimp only at hSw); go_simp; try with_reducible rfl
              try simp only [Act.put, List.setIfInBounds_toArray, List.set_cons_zero, List.set_cons_succ]
              refine take_in (i := 31) (v := .bool false) rfl (by kernel_rfl) (by kernel_rfl) (by kernel_rfl) (fun _ _ _ h => h) (by rfl) ?hy31za (by assumption) ?_
              case hy31za => intro WW hSw; (try dsimp only at hSw); go_simp; try (first | with_reducible rfl | (have hF := hp1; simp; omega))
              try simp only [Act.put, List.setIfInBounds_toArray, List.set_cons_zero, List.set_cons_succ]
              refine take_in (i := 32) (v := ?v32za) rfl (by kernel_rfl) (by kernel_rfl) (by kernel_rfl) (fun _ _ _ h => h) (by rfl) ?hy32za (by assumption) ?_
              case hy32za => intro WW hSw; (try dsimp only at hSw); go_simp; try with_reducible rfl
              try simp only [Act.put, List.setIfInBounds_toArray, List.set_cons_zero, List.set_cons_succ]
              refine wpAnyH_done (by kernel_rfl) ?_ _
              go_upto_region 25 with (fail)
              obtain ⟨V2, hV2⟩ : ∃ V2, V2 = (V1.setCell ⟨b, 3, none⟩ (.int .i64 (P + (i : Int)))).drew := ⟨_, rfl⟩
              rw [← hV2]
              have hbx2 : BoxT V2 b #[.int .i64 K, .string XT, .int .i64 N, .int .i64 (P + (i : Int))] := by rw [hV2]; exact hbx.put 3 _
              have hB2 : Below W4.heap.size W4 V2 := by rw [hV2]; exact (let h := hB1.setCell (p := ⟨b, 3, none⟩) hbw (.int .i64 (P + (i : Int))); ⟨h.os, h.tape, h.output, h.size, h.block⟩)
              have hk2 : Below b V1 V2 := by rw [hV2]; exact (let h := (Below.refl _ _ : Below b V1 V1).setCell (p := ⟨b, 3, none⟩) (Nat.le_refl b) (.int .i64 (P + (i : Int))); ⟨h.os, h.tape, h.output, h.size, h.block⟩)
              have c30 := (hk2.cell b3).trans c30
              have c31 := (hk2.cell (p := ⟨(ad3.add (j * 4)).block, (ad3.add (j * 4)).off + 1, none⟩) b3).trans c31
              have c32 := (hk2.cell (p := ⟨(ad3.add (j * 4)).block, (ad3.add (j * 4)).off + 2, none⟩) b3).trans c32
              have c33 := (hk2.cell (p := ⟨(ad3.add (j * 4)).block, (ad3.add (j * 4)).off + 3, none⟩) b3).trans c33
              have hbc2 := hbx2.cells
              have hbf2 := hbx2.free
              clear hV2 hbc hbf hbx hHeld c40 c41 c42 c43 c20 c21 c22 c23 hB1 hk1 hk2
              refine wp_region_held_drew (S := (fun WW => (WW.cell? (ad3.add (j * 4)) = some (.int .i64 K) ∧ WW.cell? ⟨(ad3.add (j * 4)).block, (ad3.add (j * 4)).off + 1, none⟩ = some (.string XT) ∧ WW.cell? ⟨(ad3.add (j * 4)).block, (ad3.add (j * 4)).off + 2, none⟩ = some (.int .i64 N) ∧ WW.cell? ⟨(ad3.add (j * 4)).block, (ad3.add (j * 4)).off + 3, none⟩ = some (.int .i64 (P + (i : Int)))) ∧ (WW.cell? ⟨b, 0, none⟩ = some (.int .i64 K) ∧ WW.cell? ⟨b, 1, none⟩ = some (.string XT) ∧ WW.cell? ⟨b, 2, none⟩ = some (.int .i64 N) ∧ WW.cell? ⟨b, 3, none⟩ = some (.int .i64 (P + (i : Int)))))) (by kernel_rfl) ?_ (fun hHeld => ?_)
              · exact ⟨⟨c30, c31, c32, c33⟩, ⟨hbc2 0, hbc2 1, hbc2 2, hbc2 3⟩⟩
              refine take_in (i := 0) (v := ?v0zb) rfl (by kernel_rfl) (by kernel_rfl) (by kernel_rfl) (fun _ _ _ h => h) (by rfl) ?hy0zb (by assumption) ?_
              case hy0zb => intro WW hSw; (try dsimp only at hSw); go_simp; try with_reducible rfl
              try simp only [Act.put, List.setIfInBounds_toArray, List.set_cons_zero, List.set_cons_succ]
              refine take_in (i := 1) (v := ?v1zb) rfl (by kernel_rfl) (by kernel_rfl) (by kernel_rfl) (fun _ _ _ h => h) (by rfl) ?hy1zb (by assumption) ?_
              case hy1zb => intro WW hSw; (try dsimp only at hSw); go_simp; try with_reducible rfl
              try simp only [Act.put, List.setIfInBounds_toArray, List.set_cons_zero, List.set_cons_succ]
              refine take_in (i := 2) (v := ?v2zb) rfl (by kernel_rfl) (by kernel_rfl) (by kernel_rfl) (fun _ _ _ h => h) (by rfl) ?hy2zb (by assumption) ?_
              case hy2zb => intro WW hSw; (try dsimp only at hSw); go_simp; try with_reducible rfl
              try simp only [Act.put, List.setIfInBounds_toArray, List.set_cons_zero, List.set_cons_succ]
              refine take_in (i := 3) (v := ?v3zb) rfl (by kernel_rfl) (by kernel_rfl) (by kernel_rfl) (fun _ _ _ h => h) (by rfl) ?hy3zb (by assumption) ?_
              case hy3zb => intro WW hSw; (try dsimp only at hSw); go_simp; try with_reducible rfl
              try simp only [Act.put, List.setIfInBounds_toArray, List.set_cons_zero, List.set_cons_succ]
              refine take_in (i := 4) (v := ?v4zb) rfl (by kernel_rfl) (by kernel_rfl) (by kernel_rfl) (fun _ _ _ h => h) (by rfl) ?hy4zb (by assumption) ?_
              case hy4zb => intro WW hSw; (try dsimp only at hSw); go_simp; try with_reducible rfl
              try simp only [Act.put, List.setIfInBounds_toArray, List.set_cons_zero, List.set_cons_succ]
              refine take_in (i := 5) (v := .bool false) rfl (by kernel_rfl) (by kernel_rfl) (by kernel_rfl) (fun _ _ _ h => h) (by rfl) ?hy5zb (by assumption) ?_
              case hy5zb => intro WW hSw; (try dsimp only at hSw); go_simp; try with_reducible rfl
              try simp only [Act.put, List.setIfInBounds_toArray, List.set_cons_zero, List.set_cons_succ]
              refine wpAnyH_done (by kernel_rfl) ?_ _
              go_wp2
              go_roundg (gk - 1)
              case measure => omega
              case rel => exact ⟨j + 1, by omega, by omega, by go_num, (let h := hB2; ⟨h.os, h.tape, h.output, h.size, h.block⟩)⟩
            · obtain ⟨m, rfl⟩ : ∃ m, j = m + 1 := ⟨j - 1, by omega⟩
              obtain ⟨K1, X1, N1, P1, ⟨ad1, e1, h1⟩, hlt1⟩ := HPR.out m rfl
              obtain rfl := Option.some.inj e1
              have h1 := h1.kept HB
              obtain ⟨b1, _, _, _, _, c13⟩ := h1
              simp only at c13
              have c13 := (hk1.cell (p := ⟨(ad2.add (m * 4)).block, (ad2.add (m * 4)).off + 3, none⟩) b1).trans c13
              clear HPR hz b1
              obtain ⟨j', hj'⟩ : ∃ j', j' = m + 1 := ⟨_, rfl⟩
              have hjm : (j' : Int) - 1 = (m : Int) := by omega
              have hjp : (0 : Int) < (j' : Int) := by omega
              rw [← hj'] at hj hg hj0 hlt hlti c20 c21 c22 c23 c30 c31 c32 c33 c40 c41 c42 c43 b2 b3 b4 ⊢
              have HJ := Aside0.mk hj'
              clear hj'
              have hmn : (m : Int) < (n : Int) := by omega
              have hm0 : (0 : Int) ≤ (m : Int) := by omega
              have hm63 : (m : Int) ≤ 9223372036854775807 := by omega
              have hge : ¬ P ≤ P1 := by omega
              refine wp_region_held_drew (S := (fun WW => (WW.cell? (ad4.add (j' * 4)) = some (.int .i64 K) ∧ WW.cell? ⟨(ad4.add (j' * 4)).block, (ad4.add (j' * 4)).off + 1, none⟩ = some (.string XT) ∧ WW.cell? ⟨(ad4.add (j' * 4)).block, (ad4.add (j' * 4)).off + 2, none⟩ = some (.int .i64 N) ∧ WW.cell? ⟨(ad4.add (j' * 4)).block, (ad4.add (j' * 4)).off + 3, none⟩ = some (.int .i64 P)) ∧ (WW.cell? ⟨b, 0, none⟩ = some (.int .i64 K) ∧ WW.cell? ⟨b, 1, none⟩ = some (.string XT) ∧ WW.cell? ⟨b, 2, none⟩ = some (.int .i64 N) ∧ WW.cell? ⟨b, 3, none⟩ = some (.int .i64 P)) ∧ WW.cell? ⟨(ad2.add (m * 4)).block, (ad2.add (m * 4)).off + 3, none⟩ = some (.int .i64 P1))) (by kernel_rfl) ?_ (fun hHeld => ?_)
              · exact ⟨⟨c40, c41, c42, c43⟩, ⟨hbc 0, hbc 1, hbc 2, hbc 3⟩, c13⟩
              refine take_in (i := 0) (v := ?v0pa) rfl (by kernel_rfl) (by kernel_rfl) (by kernel_rfl) (fun _ _ _ h => h) (by rfl) ?hy0pa (by assumption) ?_
              case hy0pa => intro WW hSw; (try dsimp only at hSw); go_simp; try with_reducible rfl
              try simp only [Act.put, List.setIfInBounds_toArray, List.set_cons_zero, List.set_cons_succ]
              refine take_in (i := 1) (v := ?v1pa) rfl (by kernel_rfl) (by kernel_rfl) (by kernel_rfl) (fun _ _ _ h => h) (by rfl) ?hy1pa (by assumption) ?_
              case hy1pa => intro WW hSw; (try dsimp only at hSw); go_simp; try with_reducible rfl
              try simp only [Act.put, List.setIfInBounds_toArray, List.set_cons_zero, List.set_cons_succ]
              refine take_in (i := 2) (v := ?v2pa) rfl (by kernel_rfl) (by kernel_rfl) (by kernel_rfl) (fun _ _ _ h => h) (by rfl) ?hy2pa (by assumption) ?_
              case hy2pa => intro WW hSw; (try dsimp only at hSw); go_simp; try with_reducible rfl
              try simp only [Act.put, List.setIfInBounds_toArray, List.set_cons_zero, List.set_cons_succ]
              refine take_in (i := 3) (v := ?v3pa) rfl (by kernel_rfl) (by kernel_rfl) (by kernel_rfl) (fun _ _ _ h => h) (by rfl) ?hy3pa (by assumption) ?_
              case hy3pa => intro WW hSw; (try dsimp only at hSw); go_simp; try with_reducible rfl
              try simp only [Act.put, List.setIfInBounds_toArray, List.set_cons_zero, List.set_cons_succ]
              refine take_in (i := 4) (v := ?v4pa) rfl (by kernel_rfl) (by kernel_rfl) (by kernel_rfl) (fun _ _ _ h => h) (by rfl) ?hy4pa (by assumption) ?_
              case hy4pa => intro WW hSw; (try dsimp only at hSw); go_simp; try with_reducible rfl
              try simp only [Act.put, List.setIfInBounds_toArray, List.set_cons_zero, List.set_cons_succ]
              refine take_in (i := 5) (v := .bool false) rfl (by kernel_rfl) (by kernel_rfl) (by kernel_rfl) (fun _ _ _ h => h) (by rfl) ?hy5pa (by assumption) ?_
              case hy5pa => intro WW hSw; (try dsimp only at hSw); go_simp; try with_reducible rfl
              try simp only [Act.put, List.setIfInBounds_toArray, List.set_cons_zero, List.set_cons_succ]
              refine take_in (i := 6) (v := ?v6pa) rfl (by kernel_rfl) (by kernel_rfl) (by kernel_rfl) (fun _ _ _ h => h) (by rfl) ?hy6pa (by assumption) ?_
              case hy6pa => intro WW hSw; (try dsimp only at hSw); go_simp; try with_reducible rfl
              try simp only [Act.put, List.setIfInBounds_toArray, List.set_cons_zero, List.set_cons_succ]
              refine take_in (i := 7) (v := ?v7pa) rfl (by kernel_rfl) (by kernel_rfl) (by kernel_rfl) (fun _ _ _ h => h) (by rfl) ?hy7pa (by assumption) ?_
              case hy7pa => intro WW hSw; (try dsimp only at hSw); go_simp; try with_reducible rfl
              try simp only [Act.put, List.setIfInBounds_toArray, List.set_cons_zero, List.set_cons_succ]
              refine take_in (i := 8) (v := .bool true) rfl (by kernel_rfl) (by kernel_rfl) (by kernel_rfl) (fun _ _ _ h => h) (by rfl) ?hy8pa (by assumption) ?_
              case hy8pa => intro WW hSw; (try dsimp only at hSw); go_simp; try (first | with_reducible rfl | (have hF := hjp; simp; omega))
              try simp only [Act.put, List.setIfInBounds_toArray, List.set_cons_zero, List.set_cons_succ]
              refine take_in (i := 9) (v := ?v9pa) rfl (by kernel_rfl) (by kernel_rfl) (by kernel_rfl) (fun _ _ _ h => h) (by rfl) ?hy9pa (by assumption) ?_
              case hy9pa => intro WW hSw; (try dsimp only at hSw); go_simp; try with_reducible rfl
              try simp only [Act.put, List.setIfInBounds_toArray, List.set_cons_zero, List.set_cons_succ]
              refine take_in (i := 10) (v := ?v10pa) rfl (by kernel_rfl) (by kernel_rfl) (by kernel_rfl) (fun _ _ _ h => h) (by rfl) ?hy10pa (by assumption) ?_
              case hy10pa => intro WW hSw; (try dsimp only at hSw); go_simp; try with_reducible rfl
              try simp only [Act.put, List.setIfInBounds_toArray, List.set_cons_zero, List.set_cons_succ]
              refine take_in (i := 11) (v := ?v11pa) rfl (by kernel_rfl) (by kernel_rfl) (by kernel_rfl) (fun _ _ _ h => h) (by rfl) ?hy11pa (by assumption) ?_
              case hy11pa => intro WW hSw; (try dsimp only at hSw); go_simp; try with_reducible rfl
              try simp only [Act.put, List.setIfInBounds_toArray, List.set_cons_zero, List.set_cons_succ]
              refine take_in (i := 12) (v := .int .i64 (m : Int)) rfl (by kernel_rfl) (by kernel_rfl) (by kernel_rfl) (fun _ _ _ h => h) (by rfl) ?hy12pa (by assumption) ?_
              case hy12pa => intro WW hSw; (try dsimp only at hSw); go_simp; try (first | exact IntWalk.i64_in _ (by omega) | rfl)
              try simp only [Act.put, List.setIfInBounds_toArray, List.set_cons_zero, List.set_cons_succ]
              refine take_in (i := 13) (v := ?v13pa) rfl (by kernel_rfl) (by kernel_rfl) (by kernel_rfl) (fun _ _ _ h => h) (by rfl) ?hy13pa (by assumption) ?_
              case hy13pa => intro WW hSw; (try dsimp only at hSw); go_simp; try with_reducible rfl
              try simp only [Act.put, List.setIfInBounds_toArray, List.set_cons_zero, List.set_cons_succ]
              refine take_in (i := 14) (v := ?v14pa) rfl (by kernel_rfl) (by kernel_rfl) (by kernel_rfl) (fun _ _ _ h => h) (by rfl) ?hy14pa (by assumption) ?_
              case hy14pa => intro WW hSw; (try dsimp only at hSw); go_simp; try with_reducible rfl
              try simp only [Act.put, List.setIfInBounds_toArray, List.set_cons_zero, List.set_cons_succ]
              refine take_in (i := 15) (v := ?v15pa) rfl (by kernel_rfl) (by kernel_rfl) (by kernel_rfl) (fun _ _ _ h => h) (by rfl) ?hy15pa (by assumption) ?_
              case hy15pa => intro WW hSw; (try dsimp only at hSw); go_simp; try with_reducible rfl
              try simp only [Act.put, List.setIfInBounds_toArray, List.set_cons_zero, List.set_cons_succ]
              refine take_in (i := 16) (v := ?v16pa) rfl (by kernel_rfl) (by kernel_rfl) (by kernel_rfl) (fun _ _ _ h => h) (by rfl) ?hy16pa (by assumption) ?_
              case hy16pa => intro WW hSw; (try dsimp only at hSw); go_simp; try with_reducible rfl
              try simp only [Act.put, List.setIfInBounds_toArray, List.set_cons_zero, List.set_cons_succ]
              refine take_in (i := 17) (v := ?v17pa) rfl (by kernel_rfl) (by kernel_rfl) (by kernel_rfl) (fun _ _ _ h => h) (by rfl) ?hy17pa (by assumption) ?_
              case hy17pa => intro WW hSw; (try dsimp only at hSw); go_simp; try with_reducible rfl
              try simp only [Act.put, List.setIfInBounds_toArray, List.set_cons_zero, List.set_cons_succ]
              refine take_in (i := 18) (v := .bool false) rfl (by kernel_rfl) (by kernel_rfl) (by kernel_rfl) (fun _ _ _ h => h) (by rfl) ?hy18pa (by assumption) ?_
              case hy18pa => intro WW hSw; (try dsimp only at hSw); go_simp; try (first | with_reducible rfl | (have hF := hge; simp; omega))
              try simp only [Act.put, List.setIfInBounds_toArray, List.set_cons_zero, List.set_cons_succ]
              refine take_in (i := 19) (v := ?v19pa) rfl (by kernel_rfl) (by kernel_rfl) (by kernel_rfl) (fun _ _ _ h => h) (by rfl) ?hy19pa (by assumption) ?_
              case hy19pa => intro WW hSw; (try dsimp only at hSw); go_simp; try with_reducible rfl
              try simp only [Act.put, List.setIfInBounds_toArray, List.set_cons_zero, List.set_cons_succ]
              refine take_in (i := 20) (v := ?v20pa) rfl (by kernel_rfl) (by kernel_rfl) (by kernel_rfl) (fun _ _ _ h => h) (by rfl) ?hy20pa (by assumption) ?_
              case hy20pa => intro WW hSw; (try dsimp only at hSw); go_simp; try with_reducible rfl
              try simp only [Act.put, List.setIfInBounds_toArray, List.set_cons_zero, List.set_cons_succ]
              refine take_in (i := 21) (v := ?v21pa) rfl (by kernel_rfl) (by kernel_rfl) (by kernel_rfl) (fun _ _ _ h => h) (by rfl) ?hy21pa (by assumption) ?_
              case hy21pa => intro WW hSw; (try dsimp only at hSw); go_simp; try with_reducible rfl
              try simp only [Act.put, List.setIfInBounds_toArray, List.set_cons_zero, List.set_cons_succ]
              refine take_in (i := 22) (v := ?v22pa) rfl (by kernel_rfl) (by kernel_rfl) (by kernel_rfl) (fun _ _ _ h => h) (by rfl) ?hy22pa (by assumption) ?_
              case hy22pa => intro WW hSw; (try dsimp only at hSw); go_simp; try with_reducible rfl
              try simp only [Act.put, List.setIfInBounds_toArray, List.set_cons_zero, List.set_cons_succ]
              refine take_in (i := 23) (v := ?v23pa) rfl (by kernel_rfl) (by kernel_rfl) (by kernel_rfl) (fun _ _ _ h => h) (by rfl) ?hy23pa (by assumption) ?_
              case hy23pa => intro WW hSw; (try dsimp only at hSw); go_simp; try with_reducible rfl
              try simp only [Act.put, List.setIfInBounds_toArray, List.set_cons_zero, List.set_cons_succ]
              refine take_in (i := 24) (v := .bool false) rfl (by kernel_rfl) (by kernel_rfl) (by kernel_rfl) (fun _ _ _ h => h) (by rfl) ?hy24pa (by assumption) ?_
              case hy24pa => intro WW hSw; (try dsimp only at hSw); go_simp; try (first | with_reducible rfl | (have hF := hp0; simp; omega))
              try simp only [Act.put, List.setIfInBounds_toArray, List.set_cons_zero, List.set_cons_succ]
              refine take_in (i := 25) (v := ?v25pa) rfl (by kernel_rfl) (by kernel_rfl) (by kernel_rfl) (fun _ _ _ h => h) (by rfl) ?hy25pa (by assumption) ?_
              case hy25pa => intro WW hSw; (try dsimp only at hSw); go_simp; try with_reducible rfl
              try simp only [Act.put, List.setIfInBounds_toArray, List.set_cons_zero, List.set_cons_succ]
              refine take_in (i := 26) (v := ?v26pa) rfl (by kernel_rfl) (by kernel_rfl) (by kernel_rfl) (fun _ _ _ h => h) (by rfl) ?hy26pa (by assumption) ?_
              case hy26pa => intro WW hSw; (try dsimp only at hSw); go_simp; try with_reducible rfl
              try simp only [Act.put, List.setIfInBounds_toArray, List.set_cons_zero, List.set_cons_succ]
              refine take_in (i := 27) (v := ?v27pa) rfl (by kernel_rfl) (by kernel_rfl) (by kernel_rfl) (fun _ _ _ h => h) (by rfl) ?hy27pa (by assumption) ?_
              case hy27pa => intro WW hSw; (try dsimp only at hSw); go_simp; try with_reducible rfl
              try simp only [Act.put, List.setIfInBounds_toArray, List.set_cons_zero, List.set_cons_succ]
              refine take_in (i := 28) (v := ?v28pa) rfl (by kernel_rfl) (by kernel_rfl) (by kernel_rfl) (fun _ _ _ h => h) (by rfl) ?hy28pa (by assumption) ?_
              case hy28pa => intro WW hSw; (try dsimp only at hSw); go_simp; try with_reducible rfl
              try simp only [Act.put, List.setIfInBounds_toArray, List.set_cons_zero, List.set_cons_succ]
              refine take_in (i := 29) (v := ?v29pa) rfl (by kernel_rfl) (by kernel_rfl) (by kernel_rfl) (fun _ _ _ h => h) (by rfl) ?hy29pa (by assumption) ?_
              case hy29pa => intro WW hSw; (try dsimp only at hSw); go_simp; try with_reducible rfl
              try simp only [Act.put, List.setIfInBounds_toArray, List.set_cons_zero, List.set_cons_succ]
              refine take_in (i := 30) (v := ?v30pa) rfl (by kernel_rfl) (by kernel_rfl) (by kernel_rfl) (fun _ _ _ h => h) (by rfl) ?hy30pa (by assumption) ?_
              case hy30pa => intro WW hSw; (try dsimp only at hSw); go_simp; try with_reducible rfl
              try simp only [Act.put, List.setIfInBounds_toArray, List.set_cons_zero, List.set_cons_succ]
              refine take_in (i := 31) (v := .bool false) rfl (by kernel_rfl) (by kernel_rfl) (by kernel_rfl) (fun _ _ _ h => h) (by rfl) ?hy31pa (by assumption) ?_
              case hy31pa => intro WW hSw; (try dsimp only at hSw); go_simp; try (first | with_reducible rfl | (have hF := hp1; simp; omega))
              try simp only [Act.put, List.setIfInBounds_toArray, List.set_cons_zero, List.set_cons_succ]
              refine take_in (i := 32) (v := ?v32pa) rfl (by kernel_rfl) (by kernel_rfl) (by kernel_rfl) (fun _ _ _ h => h) (by rfl) ?hy32pa (by assumption) ?_
              case hy32pa => intro WW hSw; (try dsimp only at hSw); go_simp; try with_reducible rfl
              try simp only [Act.put, List.setIfInBounds_toArray, List.set_cons_zero, List.set_cons_succ]
              refine wpAnyH_done (by kernel_rfl) ?_ _
              go_upto_region 25 with (fail)
              obtain ⟨V2, hV2⟩ : ∃ V2, V2 = (V1.setCell ⟨b, 3, none⟩ (.int .i64 (P + (i : Int)))).drew := ⟨_, rfl⟩
              rw [← hV2]
              have hbx2 : BoxT V2 b #[.int .i64 K, .string XT, .int .i64 N, .int .i64 (P + (i : Int))] := by rw [hV2]; exact hbx.put 3 _
              have hB2 : Below W4.heap.size W4 V2 := by rw [hV2]; exact (let h := hB1.setCell (p := ⟨b, 3, none⟩) hbw (.int .i64 (P + (i : Int))); ⟨h.os, h.tape, h.output, h.size, h.block⟩)
              have hk2 : Below b V1 V2 := by rw [hV2]; exact (let h := (Below.refl _ _ : Below b V1 V1).setCell (p := ⟨b, 3, none⟩) (Nat.le_refl b) (.int .i64 (P + (i : Int))); ⟨h.os, h.tape, h.output, h.size, h.block⟩)
              have c30 := (hk2.cell b3).trans c30
              have c31 := (hk2.cell (p := ⟨(ad3.add (j' * 4)).block, (ad3.add (j' * 4)).off + 1, none⟩) b3).trans c31
              have c32 := (hk2.cell (p := ⟨(ad3.add (j' * 4)).block, (ad3.add (j' * 4)).off + 2, none⟩) b3).trans c32
              have c33 := (hk2.cell (p := ⟨(ad3.add (j' * 4)).block, (ad3.add (j' * 4)).off + 3, none⟩) b3).trans c33
              have hbc2 := hbx2.cells
              have hbf2 := hbx2.free
              clear hV2 hbc hbf hbx hHeld c40 c41 c42 c43 c20 c21 c22 c23 hB1 hk1 hk2 c13
              refine wp_region_held_drew (S := (fun WW => (WW.cell? (ad3.add (j' * 4)) = some (.int .i64 K) ∧ WW.cell? ⟨(ad3.add (j' * 4)).block, (ad3.add (j' * 4)).off + 1, none⟩ = some (.string XT) ∧ WW.cell? ⟨(ad3.add (j' * 4)).block, (ad3.add (j' * 4)).off + 2, none⟩ = some (.int .i64 N) ∧ WW.cell? ⟨(ad3.add (j' * 4)).block, (ad3.add (j' * 4)).off + 3, none⟩ = some (.int .i64 (P + (i : Int)))) ∧ (WW.cell? ⟨b, 0, none⟩ = some (.int .i64 K) ∧ WW.cell? ⟨b, 1, none⟩ = some (.string XT) ∧ WW.cell? ⟨b, 2, none⟩ = some (.int .i64 N) ∧ WW.cell? ⟨b, 3, none⟩ = some (.int .i64 (P + (i : Int)))))) (by kernel_rfl) ?_ (fun hHeld => ?_)
              · exact ⟨⟨c30, c31, c32, c33⟩, ⟨hbc2 0, hbc2 1, hbc2 2, hbc2 3⟩⟩
              refine take_in (i := 0) (v := ?v0pb) rfl (by kernel_rfl) (by kernel_rfl) (by kernel_rfl) (fun _ _ _ h => h) (by rfl) ?hy0pb (by assumption) ?_
              case hy0pb => intro WW hSw; (try dsimp only at hSw); go_simp; try with_reducible rfl
              try simp only [Act.put, List.setIfInBounds_toArray, List.set_cons_zero, List.set_cons_succ]
              refine take_in (i := 1) (v := ?v1pb) rfl (by kernel_rfl) (by kernel_rfl) (by kernel_rfl) (fun _ _ _ h => h) (by rfl) ?hy1pb (by assumption) ?_
              case hy1pb => intro WW hSw; (try dsimp only at hSw); go_simp; try with_reducible rfl
              try simp only [Act.put, List.setIfInBounds_toArray, List.set_cons_zero, List.set_cons_succ]
              refine take_in (i := 2) (v := ?v2pb) rfl (by kernel_rfl) (by kernel_rfl) (by kernel_rfl) (fun _ _ _ h => h) (by rfl) ?hy2pb (by assumption) ?_
              case hy2pb => intro WW hSw; (try dsimp only at hSw); go_simp; try with_reducible rfl
              try simp only [Act.put, List.setIfInBounds_toArray, List.set_cons_zero, List.set_cons_succ]
              refine take_in (i := 3) (v := ?v3pb) rfl (by kernel_rfl) (by kernel_rfl) (by kernel_rfl) (fun _ _ _ h => h) (by rfl) ?hy3pb (by assumption) ?_
              case hy3pb => intro WW hSw; (try dsimp only at hSw); go_simp; try with_reducible rfl
              try simp only [Act.put, List.setIfInBounds_toArray, List.set_cons_zero, List.set_cons_succ]
              refine take_in (i := 4) (v := ?v4pb) rfl (by kernel_rfl) (by kernel_rfl) (by kernel_rfl) (fun _ _ _ h => h) (by rfl) ?hy4pb (by assumption) ?_
              case hy4pb => intro WW hSw; (try dsimp only at hSw); go_simp; try with_reducible rfl
              try simp only [Act.put, List.setIfInBounds_toArray, List.set_cons_zero, List.set_cons_succ]
              refine take_in (i := 5) (v := .bool false) rfl (by kernel_rfl) (by kernel_rfl) (by kernel_rfl) (fun _ _ _ h => h) (by rfl) ?hy5pb (by assumption) ?_
              case hy5pb => intro WW hSw; (try dsimp only at hSw); go_simp; try with_reducible rfl
              try simp only [Act.put, List.setIfInBounds_toArray, List.set_cons_zero, List.set_cons_succ]
              refine wpAnyH_done (by kernel_rfl) ?_ _
              go_wp2
              go_roundg (gk - 1)
              case measure => omega
              case rel => exact ⟨j' + 1, by omega, by omega, by go_num, (let h := hB2; ⟨h.os, h.tape, h.output, h.size, h.block⟩)⟩
          · obtain rfl : j = n := by omega
            clear hlt
            go_wp2
            go_ret
            exact ⟨rfl, below_then hb4 HB⟩
      · have heb : (er == 0) = false := by simpa using her
        have hts := P4.out her
        subst hts
        have hth := HTH.out
        rw [if_neg her] at hth
        try simp only [List.map_nil, List.length_nil]
        have hsum : (at_ : Int) + (i : Int) = (th : Int) := by omega
        have hsb : (th : Int) ≤ 4084 := by omega
        clear HR2 HR3 HR4 HK2 HK3 HK4 P3 P4 P6 hb1 hb2 hb3 HTH hth
        go_wp2
        go_loopg [21] 2 (fun gg s21 wr => s21 = .int .i64 0 ∧ wr = W4)
        case atStart => exact ⟨rfl, rfl⟩
        case round =>
          obtain ⟨rfl, rfl⟩ := hrel
          go_wp2
          go_ret
          exact ⟨rfl, hb4⟩
end Go.Proofs.YtokhbjagcnjiaaaDoor
