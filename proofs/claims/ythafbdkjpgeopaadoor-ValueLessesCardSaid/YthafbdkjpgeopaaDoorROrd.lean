/- The walks of the document's number and Order. -/
import Derived.Test.YthafbdkjpgeopaaDoorCmpB
import Derived.Test.YthafbdkjpgeopaaDoorSame
import Derived.BigGuardPart
set_option linter.unusedVariables false
set_option linter.unusedSimpArgs false
namespace Go.Proofs.YthafbdkjpgeopaaDoor
open Go.RowKit

theorem number_any (a b : Int) (w : World) :
    Calls Tryd.prog 61 #[.int .i64 a, .int .i64 b] w fun e w' => e = .returned (.int .i64 (cmpI a b)) ∧ w = w' := by
  by_cases h1 : a < b
  · have e : cmpI a b = -1 := by simp [cmpI, h1]
    rw [e]
    clear e
    go_enter Tryd.func61, Tryd.ntmps61
    go_wp2
    go_ret
    exact ⟨rfl, rfl⟩
  · by_cases h2 : b < a
    · have e : cmpI a b = 1 := by simp [cmpI, h1, h2]
      rw [e]
      clear e
      go_enter Tryd.func61, Tryd.ntmps61
      go_wp2
      go_ret
      exact ⟨rfl, rfl⟩
    · have e : cmpI a b = 0 := by simp [cmpI, h1, h2]
      rw [e]
      clear e
      go_enter Tryd.func61, Tryd.ntmps61
      go_wp2
      go_ret
      exact ⟨rfl, rfl⟩
set_option maxRecDepth 100000 in
set_option maxHeartbeats 1600000 in
theorem rorder_ne (ka : Int) (na : Int) (ba : Bool) (sa : ByteArray) (Aa : Option Addr) (pa : List Int) (ca : Nat) (kb : Int) (nb : Int) (bb : Bool) (sb : ByteArray) (Ab : Option Addr) (pb : List Int) (cb : Nat) (w : World) (h : ¬ ka = kb) :
    Calls Tryd.prog 33 #[.agg #[.int .i64 ka, .bool ba, .int .i64 na, .string sa, .slice Aa pa.length ca], .agg #[.int .i64 kb, .bool bb, .int .i64 nb, .string sb, .slice Ab pb.length cb]] w fun e w' => e = .returned (.int .i64 (cmpI ka kb)) ∧ Below w.heap.size w w' := by
  have hb : (ka != kb) = true := bne_iff_ne.2 h
  clear h
  go_enter Tryd.func33, Tryd.ntmps33
  go_wp2_with (go_at_call 61; refine (number_any _ _ _).mono ?_; rintro e w2 ⟨rfl, rfl⟩)
  go_ret
  exact ⟨rfl, ((Below.refl _ _).alloc (Nat.le_refl _) _).alloc (by simp) _⟩
set_option maxRecDepth 100000 in
set_option maxHeartbeats 1600000 in
theorem rorder_1 (na : Int) (ba : Bool) (sa : ByteArray) (Aa : Option Addr) (pa : List Int) (ca : Nat) (nb : Int) (bb : Bool) (sb : ByteArray) (Ab : Option Addr) (pb : List Int) (cb : Nat) (w : World)  :
    Calls Tryd.prog 33 #[.agg #[.int .i64 1, .bool ba, .int .i64 na, .string sa, .slice Aa pa.length ca], .agg #[.int .i64 1, .bool bb, .int .i64 nb, .string sb, .slice Ab pb.length cb]] w fun e w' => e = .returned (.int .i64 (if ba = bb then 0 else if ba then 1 else -1)) ∧ Below w.heap.size w w' := by
  cases ba <;> cases bb
  all_goals
    go_enter Tryd.func33, Tryd.ntmps33
    go_wp2
    go_ret
    exact ⟨rfl, ((Below.refl _ _).alloc (Nat.le_refl _) _).alloc (by simp) _⟩
set_option maxRecDepth 100000 in
set_option maxHeartbeats 1600000 in
theorem rorder_2 (na : Int) (ba : Bool) (sa : ByteArray) (Aa : Option Addr) (pa : List Int) (ca : Nat) (nb : Int) (bb : Bool) (sb : ByteArray) (Ab : Option Addr) (pb : List Int) (cb : Nat) (w : World)  :
    Calls Tryd.prog 33 #[.agg #[.int .i64 2, .bool ba, .int .i64 na, .string sa, .slice Aa pa.length ca], .agg #[.int .i64 2, .bool bb, .int .i64 nb, .string sb, .slice Ab pb.length cb]] w fun e w' => e = .returned (.int .i64 (cmpI na nb)) ∧ Below w.heap.size w w' := by
  go_enter Tryd.func33, Tryd.ntmps33
  go_wp2_with (go_at_call 61; refine (number_any _ _ _).mono ?_; rintro e w2 ⟨rfl, rfl⟩)
  go_ret
  exact ⟨rfl, ((Below.refl _ _).alloc (Nat.le_refl _) _).alloc (by simp) _⟩
set_option maxRecDepth 100000 in
set_option maxHeartbeats 1600000 in
theorem rorder_4 (na : Int) (ba : Bool) (sa : ByteArray) (Aa : Option Addr) (pa : List Int) (ca : Nat) (nb : Int) (bb : Bool) (sb : ByteArray) (Ab : Option Addr) (pb : List Int) (cb : Nat) (w : World)  :
    Calls Tryd.prog 33 #[.agg #[.int .i64 4, .bool ba, .int .i64 na, .string sa, .slice Aa pa.length ca], .agg #[.int .i64 4, .bool bb, .int .i64 nb, .string sb, .slice Ab pb.length cb]] w fun e w' => e = .returned (.int .i64 (cmpI na nb)) ∧ Below w.heap.size w w' := by
  go_enter Tryd.func33, Tryd.ntmps33
  go_wp2_with (go_at_call 61; refine (number_any _ _ _).mono ?_; rintro e w2 ⟨rfl, rfl⟩)
  go_ret
  exact ⟨rfl, ((Below.refl _ _).alloc (Nat.le_refl _) _).alloc (by simp) _⟩
set_option maxRecDepth 100000 in
set_option maxHeartbeats 1600000 in
theorem rorder_5 (na : Int) (ba : Bool) (sa : ByteArray) (Aa : Option Addr) (pa : List Int) (ca : Nat) (nb : Int) (bb : Bool) (sb : ByteArray) (Ab : Option Addr) (pb : List Int) (cb : Nat) (w : World)  :
    Calls Tryd.prog 33 #[.agg #[.int .i64 5, .bool ba, .int .i64 na, .string sa, .slice Aa pa.length ca], .agg #[.int .i64 5, .bool bb, .int .i64 nb, .string sb, .slice Ab pb.length cb]] w fun e w' => e = .returned (.int .i64 (cmpI na nb)) ∧ Below w.heap.size w w' := by
  go_enter Tryd.func33, Tryd.ntmps33
  go_wp2_with (go_at_call 61; refine (number_any _ _ _).mono ?_; rintro e w2 ⟨rfl, rfl⟩)
  go_ret
  exact ⟨rfl, ((Below.refl _ _).alloc (Nat.le_refl _) _).alloc (by simp) _⟩
set_option maxRecDepth 100000 in
set_option maxHeartbeats 1600000 in
theorem rorder_3lt (na : Int) (ba : Bool) (sa : ByteArray) (Aa : Option Addr) (pa : List Int) (ca : Nat) (nb : Int) (bb : Bool) (sb : ByteArray) (Ab : Option Addr) (pb : List Int) (cb : Nat) (w : World) (h1 : Op.bytesLess sa.toList sb.toList = true) :
    Calls Tryd.prog 33 #[.agg #[.int .i64 3, .bool ba, .int .i64 na, .string sa, .slice Aa pa.length ca], .agg #[.int .i64 3, .bool bb, .int .i64 nb, .string sb, .slice Ab pb.length cb]] w fun e w' => e = .returned (.int .i64 (-1)) ∧ Below w.heap.size w w' := by
  go_enter Tryd.func33, Tryd.ntmps33
  go_wp2
  go_ret
  exact ⟨rfl, ((Below.refl _ _).alloc (Nat.le_refl _) _).alloc (by simp) _⟩
set_option maxRecDepth 100000 in
set_option maxHeartbeats 1600000 in
theorem rorder_3eq (na : Int) (ba : Bool) (sa : ByteArray) (Aa : Option Addr) (pa : List Int) (ca : Nat) (nb : Int) (bb : Bool) (sb : ByteArray) (Ab : Option Addr) (pb : List Int) (cb : Nat) (w : World) (h1 : Op.bytesLess sa.toList sb.toList = false) (h2 : (sa.toList == sb.toList) = true) :
    Calls Tryd.prog 33 #[.agg #[.int .i64 3, .bool ba, .int .i64 na, .string sa, .slice Aa pa.length ca], .agg #[.int .i64 3, .bool bb, .int .i64 nb, .string sb, .slice Ab pb.length cb]] w fun e w' => e = .returned (.int .i64 (0)) ∧ Below w.heap.size w w' := by
  go_enter Tryd.func33, Tryd.ntmps33
  go_wp2
  go_ret
  exact ⟨rfl, ((Below.refl _ _).alloc (Nat.le_refl _) _).alloc (by simp) _⟩
set_option maxRecDepth 100000 in
set_option maxHeartbeats 1600000 in
theorem rorder_3gt (na : Int) (ba : Bool) (sa : ByteArray) (Aa : Option Addr) (pa : List Int) (ca : Nat) (nb : Int) (bb : Bool) (sb : ByteArray) (Ab : Option Addr) (pb : List Int) (cb : Nat) (w : World) (h1 : Op.bytesLess sa.toList sb.toList = false) (h2 : (sa.toList == sb.toList) = false) :
    Calls Tryd.prog 33 #[.agg #[.int .i64 3, .bool ba, .int .i64 na, .string sa, .slice Aa pa.length ca], .agg #[.int .i64 3, .bool bb, .int .i64 nb, .string sb, .slice Ab pb.length cb]] w fun e w' => e = .returned (.int .i64 (1)) ∧ Below w.heap.size w w' := by
  go_enter Tryd.func33, Tryd.ntmps33
  go_wp2
  go_ret
  exact ⟨rfl, ((Below.refl _ _).alloc (Nat.le_refl _) _).alloc (by simp) _⟩
set_option maxRecDepth 100000 in
set_option maxHeartbeats 1600000 in
theorem rorder_x (ka : Int) (na : Int) (ba : Bool) (sa : ByteArray) (Aa : Option Addr) (pa : List Int) (ca : Nat) (nb : Int) (bb : Bool) (sb : ByteArray) (Ab : Option Addr) (pb : List Int) (cb : Nat) (w : World) (e1 : (ka == 1) = false) (e2 : (ka == 2) = false) (e3 : (ka == 3) = false) (e4 : (ka == 4) = false) (e5 : (ka == 5) = false) (e6 : (ka == 6) = false) :
    Calls Tryd.prog 33 #[.agg #[.int .i64 ka, .bool ba, .int .i64 na, .string sa, .slice Aa pa.length ca], .agg #[.int .i64 ka, .bool bb, .int .i64 nb, .string sb, .slice Ab pb.length cb]] w fun e w' => e = .returned (.int .i64 (0)) ∧ Below w.heap.size w w' := by
  go_enter Tryd.func33, Tryd.ntmps33
  go_wp2
  go_ret
  exact ⟨rfl, ((Below.refl _ _).alloc (Nat.le_refl _) _).alloc (by simp) _⟩

set_option maxRecDepth 100000 in
set_option maxHeartbeats 3200000 in
theorem rorder_6 (na : Int) (ba : Bool) (sa : ByteArray) (Aa : Option Addr) (pa : List Int) (ca : Nat) (nb : Int) (bb : Bool) (sb : ByteArray) (Ab : Option Addr) (pb : List Int) (cb : Nat) (w : World) (hra : ReadsI w Aa pa) (hrb : ReadsI w Ab pb) :
    Calls Tryd.prog 33 #[.agg #[.int .i64 6, .bool ba, .int .i64 na, .string sa, .slice Aa pa.length ca], .agg #[.int .i64 6, .bool bb, .int .i64 nb, .string sb, .slice Ab pb.length cb]] w fun e w' => e = .returned (.int .i64 (cmpL pa pb)) ∧ Below w.heap.size w w' := by
  have hla := hra.1
  have hlb := hrb.1
  obtain ⟨m, hm⟩ : ∃ m, m = pa.length := ⟨_, rfl⟩
  obtain ⟨n, hn⟩ : ∃ n, n = pb.length := ⟨_, rfl⟩
  have HM := Aside0.mk hm
  have HN := Aside0.mk hn
  rw [← hm] at hla ⊢
  rw [← hn] at hlb ⊢
  obtain ⟨ANS, hANS⟩ : ∃ ANS, cmpL pa pb = ANS := ⟨_, rfl⟩
  rw [hANS]
  have HA := Aside0.mk hANS
  obtain ⟨W2, hW2⟩ : ∃ W2, W2 = (w.alloc (.cells #[.int .i64 6, .bool ba, .int .i64 na, .string sa, .slice Aa m ca] 25)).alloc (.cells #[.int .i64 6, .bool bb, .int .i64 nb, .string sb, .slice Ab n cb] 25) := ⟨_, rfl⟩
  have hB2 : Below w.heap.size w W2 := by rw [hW2]; exact below_more (below_more (Below.refl _ _) _) _
  have hc0 : ∀ i, W2.cell? ⟨w.heap.size, i, none⟩ = (#[.int .i64 6, .bool ba, .int .i64 na, .string sa, .slice Aa m ca] : Array Value)[i]? := fun i => by rw [hW2]; simp [go_sem]
  have hc1 : ∀ i, W2.cell? ⟨w.heap.size + 1, i, none⟩ = (#[.int .i64 6, .bool bb, .int .i64 nb, .string sb, .slice Ab n cb] : Array Value)[i]? := fun i => by rw [hW2]; simp [go_sem]
  have hB2' := Aside0.mk hB2
  have HRA := Aside0.mk (hra.below hB2)
  have HRB := Aside0.mk (hrb.below hB2)
  clear hANS hra hrb hm hn hB2
  go_enter Tryd.func33, Tryd.ntmps33
  go_wp2
  rw [← hW2]
  clear hW2
  go_loopg [5, 6] (m + 1) (fun gg s5 _ wr => ∃ k q : Nat, k ≤ m ∧ k ≤ n ∧ m < gg + k ∧ s5 = .int .i64 k ∧ wr = W2.drewN q ∧ Aside0 (cmpL (pa.drop k) (pb.drop k) = ANS))
  case atStart => exact ⟨0, 0, Nat.zero_le _, Nat.zero_le _, by omega, rfl, rfl, ⟨HA.out⟩⟩
  case round =>
    obtain ⟨k, q, hk, hkn, hg, rfl, rfl, HB⟩ := hrel
    have hk0 : (0 : Int) ≤ (k : Int) := by omega
    by_cases hlt : k < m
    · have hlti : (k : Int) < (m : Int) := by omega
      by_cases hltn : k < n
      · have hltni : (k : Int) < (n : Int) := by omega
        obtain ⟨ad, rfl, hcell⟩ := HRA.out.at_ k (by have := HM.out; omega)
        obtain ⟨ad2, rfl, hcell2⟩ := HRB.out.at_ k (by have := HN.out; omega)
        have hdrop := drop_getD' pa k (by have := HM.out; omega)
        have hdrop2 := drop_getD' pb k (by have := HN.out; omega)
        generalize hy : pa.getD k 0 = y at hcell hdrop
        generalize hy2 : pb.getD k 0 = y2 at hcell2 hdrop2
        have HD := Aside0.mk hdrop
        have HD2 := Aside0.mk hdrop2
        clear hy hdrop hy2 hdrop2
        obtain ⟨W3, hW3⟩ : ∃ W3, W3 = W2.drewN q := ⟨_, rfl⟩
        have hd0 : ∀ i, W3.cell? ⟨w.heap.size, i, none⟩ = (#[.int .i64 6, .bool ba, .int .i64 na, .string sa, .slice (some ad) m ca] : Array Value)[i]? := fun i => by rw [hW3, World.cell?_drewN]; exact hc0 i
        have hd1 : ∀ i, W3.cell? ⟨w.heap.size + 1, i, none⟩ = (#[.int .i64 6, .bool bb, .int .i64 nb, .string sb, .slice (some ad2) n cb] : Array Value)[i]? := fun i => by rw [hW3, World.cell?_drewN]; exact hc1 i
        rw [← World.cell?_drewN W2 q, ← hW3] at hcell hcell2
        rw [← hW3]
        have HW := Aside0.mk hW3
        clear hW3
        have hnum : ∀ W, Calls Tryd.prog 61 #[.int .i64 y, .int .i64 y2] W fun e w' => e = .returned (.int .i64 (cmpI y y2)) ∧ w' = W := fun W => (number_any y y2 W).mono fun e w' h => ⟨h.1, h.2.symm⟩
        by_cases h1 : y < y2
        · have e : cmpI y y2 = -1 := by simp [cmpI, h1]
          rw [e] at hnum
          have H1 := Aside0.mk h1
          clear e h1
          go_wp2_with fail
          go_quiet ((go_at_call 61; exact Calls.quiet_of_same (hnum _)))
          go_wp2
          go_ret
          have := HB.out
          rw [HD.out, HD2.out] at this
          simp only [cmpL, if_pos H1.out] at this
          exact ⟨by rw [← this]; rfl, below_drewn (by rw [HW.out]; exact below_drewn hB2'.out _) _⟩
        · by_cases h2 : y2 < y
          · have e : cmpI y y2 = 1 := by simp [cmpI, h1, h2]
            rw [e] at hnum
            have H1 := Aside0.mk h1
            have H2 := Aside0.mk h2
            clear e h1 h2
            go_wp2_with fail
            go_quiet ((go_at_call 61; exact Calls.quiet_of_same (hnum _)))
            go_wp2
            go_ret
            have := HB.out
            rw [HD.out, HD2.out] at this
            simp only [cmpL, if_neg (show ¬ y < y2 by have := H1.out; omega), if_pos H2.out] at this
            exact ⟨by rw [← this]; rfl, below_drewn (by rw [HW.out]; exact below_drewn hB2'.out _) _⟩
          · have e : cmpI y y2 = 0 := by simp [cmpI, h1, h2]
            rw [e] at hnum
            have H1 := Aside0.mk h1
            have H2 := Aside0.mk h2
            clear e h1 h2
            go_wp2_with fail
            go_quiet ((go_at_call 61; exact Calls.quiet_of_same (hnum _)))
            go_wp2
            go_roundg (gk - 1)
            case measure => omega
            case rel =>
              refine ⟨k + 1, _, by omega, by omega, by omega, by go_num, by rw [HW.out]; exact World.drewN_drewN .., ⟨?_⟩⟩
              have := HB.out
              rw [HD.out, HD2.out] at this
              simp only [cmpL, if_neg (show ¬ y < y2 by have := H1.out; omega), if_neg (show ¬ y2 < y by have := H2.out; omega)] at this
              exact this
      · have hltni : ¬ (k : Int) < (n : Int) := by omega
        have hkn2 : k = n := by omega
        have h3 := HB.out
        rw [drop_getD' pa k (by have := HM.out; omega), show pb.drop k = [] from List.drop_eq_nil_of_le (by have := HN.out; omega)] at h3
        have H3 := Aside0.mk h3
        have hnum : ∀ W, Calls Tryd.prog 61 #[.int .i64 m, .int .i64 n] W fun e w' => e = .returned (.int .i64 1) ∧ W = w' := fun W => by
          have := number_any m n W
          rwa [show cmpI m n = 1 by unfold cmpI; rw [if_neg (by omega), if_pos (by omega)]] at this
        have hnmi : (n : Int) < (m : Int) := by omega
        clear h3 hkn2
        go_wp2_with (go_at_call 61; refine (hnum _).mono ?_; rintro e w2 ⟨rfl, rfl⟩)
        go_ret
        exact ⟨by rw [← H3.out]; rfl, below_drewn hB2'.out _⟩
    · have hlti : ¬ (k : Int) < (m : Int) := by omega
      have hkm : k = m := by omega
      have h3 := HB.out
      rw [show pa.drop k = [] from List.drop_eq_nil_of_le (by have := HM.out; omega)] at h3
      by_cases hmn : m < n
      · rw [drop_getD' pb k (by have := HN.out; omega)] at h3
        have H3 := Aside0.mk h3
        have hnum : ∀ W, Calls Tryd.prog 61 #[.int .i64 m, .int .i64 n] W fun e w' => e = .returned (.int .i64 (-1)) ∧ W = w' := fun W => by
          have := number_any m n W
          rwa [show cmpI m n = -1 by unfold cmpI; rw [if_pos (by omega)]] at this
        clear h3 hkm
        go_wp2_with (go_at_call 61; refine (hnum _).mono ?_; rintro e w2 ⟨rfl, rfl⟩)
        go_ret
        exact ⟨by rw [← H3.out]; rfl, below_drewn hB2'.out _⟩
      · rw [show pb.drop k = [] from List.drop_eq_nil_of_le (by have := HN.out; omega)] at h3
        have H3 := Aside0.mk h3
        have hnum : ∀ W, Calls Tryd.prog 61 #[.int .i64 m, .int .i64 n] W fun e w' => e = .returned (.int .i64 0) ∧ W = w' := fun W => by
          have := number_any m n W
          rwa [show cmpI m n = 0 by unfold cmpI; rw [if_neg (by omega), if_neg (by omega)]] at this
        clear h3 hkm
        go_wp2_with (go_at_call 61; refine (hnum _).mono ?_; rintro e w2 ⟨rfl, rfl⟩)
        go_ret
        exact ⟨by rw [← H3.out]; rfl, below_drewn hB2'.out _⟩

theorem rorder_any (ka : Int) (na : Int) (ba : Bool) (sa : ByteArray) (Aa : Option Addr) (pa : List Int) (ca : Nat) (kb : Int) (nb : Int) (bb : Bool) (sb : ByteArray) (Ab : Option Addr) (pb : List Int) (cb : Nat) (w : World) (hra : ReadsI w Aa pa) (hrb : ReadsI w Ab pb) :
    Calls Tryd.prog 33 #[.agg #[.int .i64 ka, .bool ba, .int .i64 na, .string sa, .slice Aa pa.length ca], .agg #[.int .i64 kb, .bool bb, .int .i64 nb, .string sb, .slice Ab pb.length cb]] w fun e w' => e = .returned (.int .i64 (ordB ka ba na sa pa kb bb nb sb pb)) ∧ Below w.heap.size w w' := by
  by_cases hne : ka = kb
  · subst hne
    by_cases k1 : ka = 1
    · subst k1
      have := rorder_1 na ba sa Aa pa ca nb bb sb Ab pb cb w
      simpa only [ordB, Int.lt_irrefl, if_false, if_true] using this
    by_cases k2 : ka = 2
    · subst k2
      rw [show ordB 2 ba na sa pa 2 bb nb sb pb = cmpI na nb by simp [ordB]]
      exact rorder_2 na ba sa Aa pa ca nb bb sb Ab pb cb w
    by_cases k4 : ka = 4
    · subst k4
      rw [show ordB 4 ba na sa pa 4 bb nb sb pb = cmpI na nb by simp [ordB]]
      exact rorder_4 na ba sa Aa pa ca nb bb sb Ab pb cb w
    by_cases k5 : ka = 5
    · subst k5
      rw [show ordB 5 ba na sa pa 5 bb nb sb pb = cmpI na nb by simp [ordB]]
      exact rorder_5 na ba sa Aa pa ca nb bb sb Ab pb cb w
    by_cases k3 : ka = 3
    · subst k3
      rw [show ordB 3 ba na sa pa 3 bb nb sb pb = Lib.compareBytes sa.data.toList sb.data.toList by simp [ordB]]
      have hl := cmpB_less sa.data.toList sb.data.toList
      have he := cmpB_eq sa.data.toList sb.data.toList
      rw [← Lib.toList_data, ← Lib.toList_data] at hl he ⊢
      rcases cmpB_range sa.toList sb.toList with h | h | h
      · rw [h] at hl ⊢
        exact rorder_3lt na ba sa Aa pa ca nb bb sb Ab pb cb w (by simpa using hl)
      · rw [h] at hl he ⊢
        exact rorder_3eq na ba sa Aa pa ca nb bb sb Ab pb cb w (by simpa using hl) (by simpa using he)
      · rw [h] at hl he ⊢
        exact rorder_3gt na ba sa Aa pa ca nb bb sb Ab pb cb w (by simpa using hl) (by simpa using he)
    by_cases k6 : ka = 6
    · subst k6
      rw [show ordB 6 ba na sa pa 6 bb nb sb pb = cmpL pa pb by simp [ordB]]
      exact rorder_6 na ba sa Aa pa ca nb bb sb Ab pb cb w hra hrb
    rw [show ordB ka ba na sa pa ka bb nb sb pb = 0 by simp [ordB, k1, k2, k3, k4, k5, k6]]
    exact rorder_x ka na ba sa Aa pa ca nb bb sb Ab pb cb w (beq_eq_false_iff_ne.2 k1) (beq_eq_false_iff_ne.2 k2) (beq_eq_false_iff_ne.2 k3) (beq_eq_false_iff_ne.2 k4) (beq_eq_false_iff_ne.2 k5) (beq_eq_false_iff_ne.2 k6)
  · have := rorder_ne ka na ba sa Aa pa ca kb nb bb sb Ab pb cb w hne
    have e : ordB ka ba na sa pa kb bb nb sb pb = cmpI ka kb := by
      unfold ordB cmpI
      by_cases h1 : ka < kb
      · rw [if_pos h1, if_pos h1]
      · rw [if_neg h1, if_neg h1, if_pos (by omega), if_pos (by omega)]
    rw [e]
    exact this
end Go.Proofs.YthafbdkjpgeopaaDoor
