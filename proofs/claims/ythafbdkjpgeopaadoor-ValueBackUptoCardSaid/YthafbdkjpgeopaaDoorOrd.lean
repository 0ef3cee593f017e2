/- The walks of cmp.Compare, slices.Compare and value.Order. -/
import Derived.Test.YthafbdkjpgeopaaDoorValC
import Derived.Test.YthafbdkjpgeopaaDoorOrd0
import Derived.Test.YthafbdkjpgeopaaDoorShelf
set_option linter.unusedVariables false
set_option linter.unusedSimpArgs false
namespace Go.Proofs.YthafbdkjpgeopaaDoor
open Go.RowKit

theorem cmpK_any (a b : Int) (w : World) :
    Calls Tryd.prog 46 #[.int .i64 a, .int .i64 b] w fun e w' => e = .returned (.int .i64 (cmpI a b)) ∧ w = w' := by
  by_cases h1 : a < b
  · have e : cmpI a b = -1 := by simp [cmpI, h1]
    rw [e]
    clear e
    go_enter Tryd.func46, Tryd.ntmps46
    go_wp2
    go_ret
    exact ⟨rfl, rfl⟩
  · by_cases h2 : b < a
    · have e : cmpI a b = 1 := by simp [cmpI, h1, h2]
      rw [e]
      clear e
      go_enter Tryd.func46, Tryd.ntmps46
      go_wp2
      go_ret
      exact ⟨rfl, rfl⟩
    · have e : cmpI a b = 0 := by simp [cmpI, h1, h2]
      rw [e]
      clear e
      go_enter Tryd.func46, Tryd.ntmps46
      go_wp2
      go_ret
      exact ⟨rfl, rfl⟩
theorem cmp64_any (a b : Int) (w : World) :
    Calls Tryd.prog 47 #[.int .i64 a, .int .i64 b] w fun e w' => e = .returned (.int .i64 (cmpI a b)) ∧ w = w' := by
  by_cases h1 : a < b
  · have e : cmpI a b = -1 := by simp [cmpI, h1]
    rw [e]
    clear e
    go_enter Tryd.func47, Tryd.ntmps47
    go_wp2
    go_ret
    exact ⟨rfl, rfl⟩
  · by_cases h2 : b < a
    · have e : cmpI a b = 1 := by simp [cmpI, h1, h2]
      rw [e]
      clear e
      go_enter Tryd.func47, Tryd.ntmps47
      go_wp2
      go_ret
      exact ⟨rfl, rfl⟩
    · have e : cmpI a b = 0 := by simp [cmpI, h1, h2]
      rw [e]
      clear e
      go_enter Tryd.func47, Tryd.ntmps47
      go_wp2
      go_ret
      exact ⟨rfl, rfl⟩

theorem drop_getD (p : List Int) (k : Nat) (h : k < p.length) : p.drop k = p.getD k 0 :: p.drop (k + 1) := by
  rw [List.drop_eq_getElem_cons h]
  simp [List.getD, h]

set_option maxRecDepth 100000 in
set_option maxHeartbeats 800000 in
theorem slcmp_any (Aa : Option Addr) (pa : List Int) (ca : Nat) (Ab : Option Addr) (pb : List Int) (cb : Nat) (w : World) (hra : ReadsI w Aa pa) (hrb : ReadsI w Ab pb) :
    Calls Tryd.prog 49 #[.slice Aa pa.length ca, .slice Ab pb.length cb] w fun e w' => e = .returned (.int .i64 (cmpL pa pb)) ∧ w = w' := by
  have hla := hra.1
  have hlb := hrb.1
  obtain ⟨m, hm⟩ : ∃ m, m = pa.length := ⟨_, rfl⟩
  obtain ⟨n, hn⟩ : ∃ n, n = pb.length := ⟨_, rfl⟩
  have HM := Aside0.mk hm
  have HN := Aside0.mk hn
  rw [← hm] at hla ⊢
  rw [← hn] at hlb ⊢
  obtain ⟨ANS, hANS⟩ : ∃ ANS, cmpL pa pb = ANS := ⟨_, rfl⟩
  rw [hANS]
  have HA := Aside0.mk hANS
  have HRA := Aside0.mk hra
  have HRB := Aside0.mk hrb
  clear hANS hra hrb hm hn
  go_enter Tryd.func49, Tryd.ntmps49
  go_wp2
  go_loopg [5, 6, 7, 8, 11] (m + 1) (fun gg _ _ _ _ s11 wr => ∃ k : Nat, k ≤ m ∧ k ≤ n ∧ m < gg + k ∧ s11 = .int .i64 k ∧ wr = w ∧ Aside0 (cmpL (pa.drop k) (pb.drop k) = ANS))
  case atStart => exact ⟨0, Nat.zero_le _, Nat.zero_le _, by omega, rfl, rfl, ⟨HA.out⟩⟩
  case round =>
    obtain ⟨k, hk, hkn, hg, rfl, rfl, HB⟩ := hrel
    by_cases hlt : k < m
    · have hlti : (k : Int) < (m : Int) := by omega
      obtain ⟨ad, rfl, hcell⟩ := HRA.out.at_ k (by have := HM.out; omega)
      have hdrop := drop_getD pa k (by have := HM.out; omega)
      generalize hy : pa.getD k 0 = y at hcell hdrop
      have HD := Aside0.mk hdrop
      clear hy hdrop
      by_cases hltn : k < n
      · have hltni : ¬ (n : Int) ≤ (k : Int) := by omega
        have hltni2 : (k : Int) < (n : Int) := by omega
        obtain ⟨ad2, rfl, hcell2⟩ := HRB.out.at_ k (by have := HN.out; omega)
        have hdrop2 := drop_getD pb k (by have := HN.out; omega)
        generalize hy2 : pb.getD k 0 = y2 at hcell2 hdrop2
        have HD2 := Aside0.mk hdrop2
        clear hy2 hdrop2
        have hcmp := cmp64_any y y2 wr
        by_cases h1 : y < y2
        · have e : cmpI y y2 = -1 := by simp [cmpI, h1]
          rw [e] at hcmp
          have H1 := Aside0.mk h1
          clear e h1
          go_wp2_with (go_at_call 47; refine hcmp.mono ?_; rintro e w2 ⟨rfl, rfl⟩)
          go_ret
          have := HB.out
          rw [HD.out, HD2.out] at this
          simp only [cmpL, if_pos H1.out] at this
          exact ⟨by rw [← this]; rfl, rfl⟩
        · by_cases h2 : y2 < y
          · have e : cmpI y y2 = 1 := by simp [cmpI, h1, h2]
            rw [e] at hcmp
            have H1 := Aside0.mk h1
            have H2 := Aside0.mk h2
            clear e h1 h2
            go_wp2_with (go_at_call 47; refine hcmp.mono ?_; rintro e w2 ⟨rfl, rfl⟩)
            go_ret
            have := HB.out
            rw [HD.out, HD2.out] at this
            simp only [cmpL, if_neg (show ¬ y < y2 by have := H1.out; omega), if_pos H2.out] at this
            exact ⟨by rw [← this]; rfl, rfl⟩
          · have e : cmpI y y2 = 0 := by simp [cmpI, h1, h2]
            rw [e] at hcmp
            have H1 := Aside0.mk h1
            have H2 := Aside0.mk h2
            clear e h1 h2
            go_wp2_with (go_at_call 47; refine hcmp.mono ?_; rintro e w2 ⟨rfl, rfl⟩)
            go_roundg (gk - 1)
            case measure => omega
            case rel =>
              refine ⟨k + 1, by omega, by omega, by omega, by go_num, rfl, ⟨?_⟩⟩
              have := HB.out
              rw [HD.out, HD2.out] at this
              simp only [cmpL, if_neg (show ¬ y < y2 by have := H1.out; omega), if_neg (show ¬ y2 < y by have := H2.out; omega)] at this
              exact this
      · have hltni : (n : Int) ≤ (k : Int) := by omega
        have hdrop2 : pb.drop k = [] := List.drop_eq_nil_of_le (by have := HN.out; omega)
        have HB' := HB.out
        rw [HD.out, hdrop2] at HB'
        have HC := Aside0.mk HB'
        clear HB' hdrop2
        go_wp2
        go_ret
        exact ⟨by rw [← HC.out]; rfl, rfl⟩
    · have hlti : ¬ (k : Int) < (m : Int) := by omega
      have hkm : k = m := by omega
      have hdrop : pa.drop k = [] := List.drop_eq_nil_of_le (by have := HM.out; omega)
      have HB' := HB.out
      rw [hdrop] at HB'
      by_cases hmn : m < n
      · have hmni : (m : Int) < (n : Int) := by omega
        rw [drop_getD pb k (by have := HN.out; omega)] at HB'
        have HC := Aside0.mk HB'
        clear HB' hdrop hkm
        go_wp2
        go_ret
        exact ⟨by rw [← HC.out]; rfl, rfl⟩
      · have hmni : ¬ (m : Int) < (n : Int) := by omega
        rw [show pb.drop k = [] from List.drop_eq_nil_of_le (by have := HN.out; omega)] at HB'
        have HC := Aside0.mk HB'
        clear HB' hdrop hkm
        go_wp2
        go_ret
        exact ⟨by rw [← HC.out]; rfl, rfl⟩
set_option maxRecDepth 100000 in
set_option maxHeartbeats 800000 in
theorem order_lt (ka : Int) (na : Int) (ba : Bool) (sa : ByteArray) (Aa : Option Addr) (pa : List Int) (ca : Nat) (kb : Int) (nb : Int) (bb : Bool) (sb : ByteArray) (Ab : Option Addr) (pb : List Int) (cb : Nat) (w : World) (h : ka < kb) :
    Calls Tryd.prog 21 #[.agg #[.int .i64 ka, .bool ba, .int .i64 na, .string sa, .slice Aa pa.length ca], .agg #[.int .i64 kb, .bool bb, .int .i64 nb, .string sb, .slice Ab pb.length cb]] w fun e w' => e = .returned (.int .i64 (-1)) ∧ Below w.heap.size w w' := by
  have hk := fun W => cmpK_any ka kb W
  rw [show cmpI ka kb = -1 by simp [cmpI, h]] at hk
  clear h
  go_enter Tryd.func21, Tryd.ntmps21
  go_wp2_with (go_at_call 46; refine (hk _).mono ?_; rintro e w2 ⟨rfl, rfl⟩)
  go_ret
  exact ⟨rfl, ((Below.refl _ _).alloc (Nat.le_refl _) _).alloc (by simp) _⟩
set_option maxRecDepth 100000 in
set_option maxHeartbeats 800000 in
theorem order_gt (ka : Int) (na : Int) (ba : Bool) (sa : ByteArray) (Aa : Option Addr) (pa : List Int) (ca : Nat) (kb : Int) (nb : Int) (bb : Bool) (sb : ByteArray) (Ab : Option Addr) (pb : List Int) (cb : Nat) (w : World) (h : kb < ka) :
    Calls Tryd.prog 21 #[.agg #[.int .i64 ka, .bool ba, .int .i64 na, .string sa, .slice Aa pa.length ca], .agg #[.int .i64 kb, .bool bb, .int .i64 nb, .string sb, .slice Ab pb.length cb]] w fun e w' => e = .returned (.int .i64 (1)) ∧ Below w.heap.size w w' := by
  have hk := fun W => cmpK_any ka kb W
  rw [show cmpI ka kb = 1 by simp [cmpI, h, show ¬ ka < kb by omega]] at hk
  clear h
  go_enter Tryd.func21, Tryd.ntmps21
  go_wp2_with (go_at_call 46; refine (hk _).mono ?_; rintro e w2 ⟨rfl, rfl⟩)
  go_ret
  exact ⟨rfl, ((Below.refl _ _).alloc (Nat.le_refl _) _).alloc (by simp) _⟩
set_option maxRecDepth 100000 in
set_option maxHeartbeats 800000 in
theorem order_1 (na : Int) (ba : Bool) (sa : ByteArray) (Aa : Option Addr) (pa : List Int) (ca : Nat) (nb : Int) (bb : Bool) (sb : ByteArray) (Ab : Option Addr) (pb : List Int) (cb : Nat) (w : World)  :
    Calls Tryd.prog 21 #[.agg #[.int .i64 1, .bool ba, .int .i64 na, .string sa, .slice Aa pa.length ca], .agg #[.int .i64 1, .bool bb, .int .i64 nb, .string sb, .slice Ab pb.length cb]] w fun e w' => e = .returned (.int .i64 (if ba = bb then 0 else if ba then 1 else -1)) ∧ Below w.heap.size w w' := by
  have hk := fun W => cmpK_any 1 1 W
  rw [show cmpI 1 1 = 0 by simp [cmpI]] at hk
  cases ba <;> cases bb
  all_goals
    go_enter Tryd.func21, Tryd.ntmps21
    go_wp2_with (go_at_call 46; refine (hk _).mono ?_; rintro e w2 ⟨rfl, rfl⟩)
    go_ret
    exact ⟨rfl, ((Below.refl _ _).alloc (Nat.le_refl _) _).alloc (by simp) _⟩
set_option maxRecDepth 100000 in
set_option maxHeartbeats 800000 in
theorem order_2 (na : Int) (ba : Bool) (sa : ByteArray) (Aa : Option Addr) (pa : List Int) (ca : Nat) (nb : Int) (bb : Bool) (sb : ByteArray) (Ab : Option Addr) (pb : List Int) (cb : Nat) (w : World)  :
    Calls Tryd.prog 21 #[.agg #[.int .i64 2, .bool ba, .int .i64 na, .string sa, .slice Aa pa.length ca], .agg #[.int .i64 2, .bool bb, .int .i64 nb, .string sb, .slice Ab pb.length cb]] w fun e w' => e = .returned (.int .i64 (cmpI na nb)) ∧ Below w.heap.size w w' := by
  have hk := fun W => cmpK_any 2 2 W
  rw [show cmpI 2 2 = 0 by simp [cmpI]] at hk
  go_enter Tryd.func21, Tryd.ntmps21
  go_wp2_with (first | (go_at_call 46; refine (hk _).mono ?_; rintro e w2 ⟨rfl, rfl⟩) | (go_at_call 47; refine (cmp64_any _ _ _).mono ?_; rintro e w2 ⟨rfl, rfl⟩))
  go_ret
  exact ⟨rfl, ((Below.refl _ _).alloc (Nat.le_refl _) _).alloc (by simp) _⟩
set_option maxRecDepth 100000 in
set_option maxHeartbeats 800000 in
theorem order_4 (na : Int) (ba : Bool) (sa : ByteArray) (Aa : Option Addr) (pa : List Int) (ca : Nat) (nb : Int) (bb : Bool) (sb : ByteArray) (Ab : Option Addr) (pb : List Int) (cb : Nat) (w : World)  :
    Calls Tryd.prog 21 #[.agg #[.int .i64 4, .bool ba, .int .i64 na, .string sa, .slice Aa pa.length ca], .agg #[.int .i64 4, .bool bb, .int .i64 nb, .string sb, .slice Ab pb.length cb]] w fun e w' => e = .returned (.int .i64 (cmpI na nb)) ∧ Below w.heap.size w w' := by
  have hk := fun W => cmpK_any 4 4 W
  rw [show cmpI 4 4 = 0 by simp [cmpI]] at hk
  go_enter Tryd.func21, Tryd.ntmps21
  go_wp2_with (first | (go_at_call 46; refine (hk _).mono ?_; rintro e w2 ⟨rfl, rfl⟩) | (go_at_call 47; refine (cmp64_any _ _ _).mono ?_; rintro e w2 ⟨rfl, rfl⟩))
  go_ret
  exact ⟨rfl, ((Below.refl _ _).alloc (Nat.le_refl _) _).alloc (by simp) _⟩
set_option maxRecDepth 100000 in
set_option maxHeartbeats 800000 in
theorem order_5 (na : Int) (ba : Bool) (sa : ByteArray) (Aa : Option Addr) (pa : List Int) (ca : Nat) (nb : Int) (bb : Bool) (sb : ByteArray) (Ab : Option Addr) (pb : List Int) (cb : Nat) (w : World)  :
    Calls Tryd.prog 21 #[.agg #[.int .i64 5, .bool ba, .int .i64 na, .string sa, .slice Aa pa.length ca], .agg #[.int .i64 5, .bool bb, .int .i64 nb, .string sb, .slice Ab pb.length cb]] w fun e w' => e = .returned (.int .i64 (cmpI na nb)) ∧ Below w.heap.size w w' := by
  have hk := fun W => cmpK_any 5 5 W
  rw [show cmpI 5 5 = 0 by simp [cmpI]] at hk
  go_enter Tryd.func21, Tryd.ntmps21
  go_wp2_with (first | (go_at_call 46; refine (hk _).mono ?_; rintro e w2 ⟨rfl, rfl⟩) | (go_at_call 47; refine (cmp64_any _ _ _).mono ?_; rintro e w2 ⟨rfl, rfl⟩))
  go_ret
  exact ⟨rfl, ((Below.refl _ _).alloc (Nat.le_refl _) _).alloc (by simp) _⟩
set_option maxRecDepth 100000 in
set_option maxHeartbeats 800000 in
theorem order_3 (na : Int) (ba : Bool) (sa : ByteArray) (Aa : Option Addr) (pa : List Int) (ca : Nat) (nb : Int) (bb : Bool) (sb : ByteArray) (Ab : Option Addr) (pb : List Int) (cb : Nat) (w : World)  :
    Calls Tryd.prog 21 #[.agg #[.int .i64 3, .bool ba, .int .i64 na, .string sa, .slice Aa pa.length ca], .agg #[.int .i64 3, .bool bb, .int .i64 nb, .string sb, .slice Ab pb.length cb]] w fun e w' => e = .returned (.int .i64 (Lib.compareBytes sa.data.toList sb.data.toList)) ∧ Below w.heap.size w w' := by
  have hk := fun W => cmpK_any 3 3 W
  rw [show cmpI 3 3 = 0 by simp [cmpI]] at hk
  have hs : ∀ W, Calls Tryd.prog 48 #[.string sa, .string sb] W fun e w' => e = .returned (.int .i64 (Lib.compareBytes sa.data.toList sb.data.toList)) ∧ W = w' := fun W => (Tryd.strings_Compare sa sb W).mono fun e w' ⟨h1, h2⟩ => ⟨h1, h2.symm⟩
  generalize Lib.compareBytes sa.data.toList sb.data.toList = r at hs ⊢
  go_enter Tryd.func21, Tryd.ntmps21
  go_wp2_with (first | (go_at_call 46; refine (hk _).mono ?_; rintro e w2 ⟨rfl, rfl⟩) | (go_at_call 48; refine (hs _).mono ?_; rintro e w2 ⟨rfl, rfl⟩))
  go_ret
  exact ⟨rfl, ((Below.refl _ _).alloc (Nat.le_refl _) _).alloc (by simp) _⟩
set_option maxRecDepth 100000 in
set_option maxHeartbeats 800000 in
theorem order_6 (na : Int) (ba : Bool) (sa : ByteArray) (Aa : Option Addr) (pa : List Int) (ca : Nat) (nb : Int) (bb : Bool) (sb : ByteArray) (Ab : Option Addr) (pb : List Int) (cb : Nat) (w : World) (hra : ReadsI w Aa pa) (hrb : ReadsI w Ab pb) :
    Calls Tryd.prog 21 #[.agg #[.int .i64 6, .bool ba, .int .i64 na, .string sa, .slice Aa pa.length ca], .agg #[.int .i64 6, .bool bb, .int .i64 nb, .string sb, .slice Ab pb.length cb]] w fun e w' => e = .returned (.int .i64 (cmpL pa pb)) ∧ Below w.heap.size w w' := by
  have hk := fun W => cmpK_any 6 6 W
  rw [show cmpI 6 6 = 0 by simp [cmpI]] at hk
  have hbel : ∀ o1 o2 : Obj, Below w.heap.size w ((w.alloc o1).alloc o2) := fun o1 o2 => ((Below.refl _ _).alloc (Nat.le_refl _) _).alloc (by simp) _
  have hs : ∀ o1 o2 : Obj, Calls Tryd.prog 49 #[.slice Aa pa.length ca, .slice Ab pb.length cb] ((w.alloc o1).alloc o2) fun e w' => e = .returned (.int .i64 (cmpL pa pb)) ∧ ((w.alloc o1).alloc o2) = w' := fun o1 o2 => slcmp_any Aa pa ca Ab pb cb _ (hra.below (hbel o1 o2)) (hrb.below (hbel o1 o2))
  generalize cmpL pa pb = r at hs ⊢
  clear hra hrb hbel
  go_enter Tryd.func21, Tryd.ntmps21
  go_wp2_with (first | (go_at_call 46; refine (hk _).mono ?_; rintro e w2 ⟨rfl, rfl⟩) | (go_at_call 49; refine (hs _ _).mono ?_; rintro e w2 ⟨rfl, rfl⟩))
  go_ret
  exact ⟨rfl, ((Below.refl _ _).alloc (Nat.le_refl _) _).alloc (by simp) _⟩
set_option maxRecDepth 100000 in
set_option maxHeartbeats 800000 in
theorem order_x (ka : Int) (na : Int) (ba : Bool) (sa : ByteArray) (Aa : Option Addr) (pa : List Int) (ca : Nat) (nb : Int) (bb : Bool) (sb : ByteArray) (Ab : Option Addr) (pb : List Int) (cb : Nat) (w : World) (e1 : (ka == 1) = false) (e2 : (ka == 2) = false) (e3 : (ka == 3) = false) (e4 : (ka == 4) = false) (e5 : (ka == 5) = false) (e6 : (ka == 6) = false) :
    Calls Tryd.prog 21 #[.agg #[.int .i64 ka, .bool ba, .int .i64 na, .string sa, .slice Aa pa.length ca], .agg #[.int .i64 ka, .bool bb, .int .i64 nb, .string sb, .slice Ab pb.length cb]] w fun e w' => e = .returned (.int .i64 (0)) ∧ Below w.heap.size w w' := by
  have hk := fun W => cmpK_any ka ka W
  rw [show cmpI ka ka = 0 by simp [cmpI]] at hk
  go_enter Tryd.func21, Tryd.ntmps21
  go_wp2_with (go_at_call 46; refine (hk _).mono ?_; rintro e w2 ⟨rfl, rfl⟩)
  go_ret
  exact ⟨rfl, ((Below.refl _ _).alloc (Nat.le_refl _) _).alloc (by simp) _⟩

theorem order_any (ka : Int) (na : Int) (ba : Bool) (sa : ByteArray) (Aa : Option Addr) (pa : List Int) (ca : Nat) (kb : Int) (nb : Int) (bb : Bool) (sb : ByteArray) (Ab : Option Addr) (pb : List Int) (cb : Nat) (w : World) (hra : ReadsI w Aa pa) (hrb : ReadsI w Ab pb) :
    Calls Tryd.prog 21 #[.agg #[.int .i64 ka, .bool ba, .int .i64 na, .string sa, .slice Aa pa.length ca], .agg #[.int .i64 kb, .bool bb, .int .i64 nb, .string sb, .slice Ab pb.length cb]] w fun e w' => e = .returned (.int .i64 (ordB ka ba na sa pa kb bb nb sb pb)) ∧ Below w.heap.size w w' := by
  by_cases hlt : ka < kb
  · rw [show ordB ka ba na sa pa kb bb nb sb pb = -1 by simp [ordB, hlt]]
    exact order_lt ka na ba sa Aa pa ca kb nb bb sb Ab pb cb w hlt
  by_cases hgt : kb < ka
  · rw [show ordB ka ba na sa pa kb bb nb sb pb = 1 by simp [ordB, hlt, hgt]]
    exact order_gt ka na ba sa Aa pa ca kb nb bb sb Ab pb cb w hgt
  obtain rfl : ka = kb := by omega
  by_cases k1 : ka = 1
  · subst k1
    have := order_1 na ba sa Aa pa ca nb bb sb Ab pb cb w
    simpa only [ordB, Int.lt_irrefl, if_false, if_true] using this
  by_cases k2 : ka = 2
  · subst k2
    rw [show ordB 2 ba na sa pa 2 bb nb sb pb = cmpI na nb by simp [ordB]]
    exact order_2 na ba sa Aa pa ca nb bb sb Ab pb cb w
  by_cases k4 : ka = 4
  · subst k4
    rw [show ordB 4 ba na sa pa 4 bb nb sb pb = cmpI na nb by simp [ordB]]
    exact order_4 na ba sa Aa pa ca nb bb sb Ab pb cb w
  by_cases k5 : ka = 5
  · subst k5
    rw [show ordB 5 ba na sa pa 5 bb nb sb pb = cmpI na nb by simp [ordB]]
    exact order_5 na ba sa Aa pa ca nb bb sb Ab pb cb w
  by_cases k3 : ka = 3
  · subst k3
    rw [show ordB 3 ba na sa pa 3 bb nb sb pb = Lib.compareBytes sa.data.toList sb.data.toList by simp [ordB]]
    exact order_3 na ba sa Aa pa ca nb bb sb Ab pb cb w
  by_cases k6 : ka = 6
  · subst k6
    rw [show ordB 6 ba na sa pa 6 bb nb sb pb = cmpL pa pb by simp [ordB]]
    exact order_6 na ba sa Aa pa ca nb bb sb Ab pb cb w hra hrb
  rw [show ordB ka ba na sa pa ka bb nb sb pb = 0 by simp [ordB, k1, k2, k3, k4, k5, k6]]
  exact order_x ka na ba sa Aa pa ca nb bb sb Ab pb cb w (beq_eq_false_iff_ne.2 k1) (beq_eq_false_iff_ne.2 k2) (beq_eq_false_iff_ne.2 k3) (beq_eq_false_iff_ne.2 k4) (beq_eq_false_iff_ne.2 k5) (beq_eq_false_iff_ne.2 k6)
end Go.Proofs.YthafbdkjpgeopaaDoor
