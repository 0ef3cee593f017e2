/- value.Right whole: slices.IndexFunc and ContainsFunc over a path's numbers. -/
import Derived.Test.YtkchpgjjkckfbaaDoorValB
set_option linter.unusedVariables false
set_option linter.unusedSimpArgs false
namespace Go.Proofs.YtkchpgjjkckfbaaDoor
open Go.RowKit

/-- The first place whose number may be no ID, or -1. -/
def badFrom : List Int → Int → Int
  | [], _ => -1
  | x :: r, i => if idB x then badFrom r (i + 1) else i

theorem badFrom_neg : ∀ (p : List Int) (i : Int), 0 ≤ i → decide (0 ≤ badFrom p i) = !(p.all idB)
  | [], i, h => by simp [badFrom]
  | x :: r, i, h => by
    unfold badFrom
    by_cases hx : idB x = true
    · rw [if_pos hx, badFrom_neg r (i + 1) (by omega)]
      simp [hx]
    · rw [if_neg hx]
      simp [hx, h]

theorem closure_any (n : Int) (w : World) :
    Calls Tryd.prog 91 #[.int .i64 n] w fun e w' => e = .returned (.bool (!idB n)) ∧ w = w' := by
  go_enter Tryd.func91, Tryd.ntmps91
  go_wp2_with (go_at_call 89; refine (id_any _ _).mono ?_; rintro e w2 ⟨rfl, rfl⟩)
  go_ret
  exact ⟨rfl, rfl⟩

set_option maxRecDepth 100000 in
set_option maxHeartbeats 400000 in
theorem index_any (A : Option Addr) (c : Nat) (p : List Int) (w : World) (hr : ReadsI w A p) :
    Calls Tryd.prog 115 #[.slice A p.length c, .func (.func 91) #[] #[]] w fun e w' => e = .returned (.int .i64 (badFrom p 0)) ∧ w = w' := by
  have hlen := hr.1
  obtain ⟨m, hm⟩ : ∃ m, m = p.length := ⟨_, rfl⟩
  have HM := Aside0.mk hm
  rw [← hm] at hlen ⊢
  obtain ⟨ANS, hANS⟩ : ∃ ANS, badFrom p 0 = ANS := ⟨_, rfl⟩
  rw [hANS]
  have HA := Aside0.mk hANS
  have HR := Aside0.mk hr
  clear hANS hr hm
  go_enter Tryd.func115, Tryd.ntmps115
  go_wp2
  go_loopg [5, 8] (m + 1) (fun gg _ s8 wr => ∃ k : Nat, k ≤ m ∧ m < gg + k ∧ s8 = .int .i64 k ∧ wr = w ∧ Aside0 (badFrom (p.drop k) k = ANS))
  case atStart => exact ⟨0, Nat.zero_le _, by omega, rfl, rfl, ⟨HA.out⟩⟩
  case round =>
    obtain ⟨k, hk, hg, rfl, rfl, HB⟩ := hrel
    by_cases hlt : k < m
    · have hlti : (k : Int) < (m : Int) := by omega
      obtain ⟨ad, rfl, hcell⟩ := HR.out.at_ k (by have := HM.out; omega)
      have hdrop : p.drop k = p.getD k 0 :: p.drop (k + 1) := by
        have hk' : k < p.length := by have := HM.out; omega
        rw [List.drop_eq_getElem_cons hk']
        simp [List.getD, hk']
      generalize hy : p.getD k 0 = y at hcell hdrop
      have HD := Aside0.mk hdrop
      clear hy hdrop
      by_cases hq : idB y = true
      · have hcall : Calls Tryd.prog 91 #[.int .i64 y] wr fun e w' => e = .returned (.bool false) ∧ wr = w' := by
          have := closure_any y wr
          rwa [hq] at this
        have HQ := Aside0.mk hq
        clear hq
        go_wp2_with (go_at_call 91; refine hcall.mono ?_; rintro e w2 ⟨rfl, rfl⟩)
        go_roundg (gk - 1)
        case measure => omega
        case rel =>
          refine ⟨k + 1, by omega, by omega, by go_num, rfl, ⟨?_⟩⟩
          have := HB.out
          rw [HD.out] at this
          simp only [badFrom, if_pos HQ.out] at this
          rw [← this]
          congr 1
      · have hq' : idB y = false := by simpa using hq
        have hcall : Calls Tryd.prog 91 #[.int .i64 y] wr fun e w' => e = .returned (.bool true) ∧ wr = w' := by
          have := closure_any y wr
          rwa [hq'] at this
        have HQ := Aside0.mk hq
        clear hq hq'
        go_wp2_with (go_at_call 91; refine hcall.mono ?_; rintro e w2 ⟨rfl, rfl⟩)
        go_ret
        have := HB.out
        rw [HD.out] at this
        simp only [badFrom, if_neg HQ.out] at this
        exact ⟨by rw [← this]; rfl, rfl⟩
    · have hlti : ¬ (k : Int) < (m : Int) := by omega
      have hkm : k = m := by omega
      have hdrop : p.drop k = [] := List.drop_eq_nil_of_le (by have := HM.out; omega)
      have HB' := HB.out
      rw [hdrop] at HB'
      have HC := Aside0.mk HB'
      clear HB' hdrop hkm
      go_wp2
      go_ret
      exact ⟨by rw [← HC.out]; rfl, rfl⟩

theorem contains_any (A : Option Addr) (c : Nat) (p : List Int) (w : World) (hr : ReadsI w A p) :
    Calls Tryd.prog 90 #[.slice A p.length c, .func (.func 91) #[] #[]] w fun e w' => e = .returned (.bool (!(p.all idB))) ∧ w = w' := by
  rw [← badFrom_neg p 0 (Int.le_refl _)]
  go_enter Tryd.func90, Tryd.ntmps90
  go_wp2_with (go_at_call 115; refine (index_any _ _ _ _ hr).mono ?_; rintro e w2 ⟨rfl, rfl⟩)
  go_ret
  exact ⟨by simp, rfl⟩

set_option maxRecDepth 100000 in
set_option maxHeartbeats 400000 in
theorem right_6_ok (s : ByteArray) (A : Option Addr) (p : List Int) (c : Nat) (w : World) (hr : ReadsI w A p) (hs : s.toList.isEmpty = true) (h0 : 0 < p.length) (h9 : p.length ≤ 9) :
    Calls Tryd.prog 61 #[.agg #[.int .i64 6, .bool false, .int .i64 0, .string s, .slice A p.length c]] w fun e w' => e = .returned (.bool (p.all idB)) ∧ Below w.heap.size w w' := by
  have h0i : (0 : Int) < (p.length : Int) := by omega
  have h9i : (p.length : Int) ≤ 9 := by omega
  go_enter Tryd.func61, Tryd.ntmps61
  go_wp2_with (first | (go_at_call 87; refine (bare_6 _ _ _ _ _ _ _).mono ?_; rintro e w1 ⟨rfl, hb1⟩; obtain ⟨hc1, hf1⟩ := bcell hb1; have hz1 : w.heap.size < w1.heap.size := by (have := hb1.size; simp at this; omega)) | (go_at_call 90; refine (contains_any _ _ _ _ (hr.below (below_more (below_box hb1) _))).mono ?_; rintro e w2 ⟨rfl, rfl⟩))
  go_ret
  exact ⟨by simp, below_more (below_box hb1) _⟩

set_option maxRecDepth 100000 in
set_option maxHeartbeats 400000 in
theorem right_6_many (s : ByteArray) (A : Option Addr) (m c : Nat) (w : World) (hs : s.toList.isEmpty = true) (h : m = 0 ∨ 9 < m) :
    Calls Tryd.prog 61 #[.agg #[.int .i64 6, .bool false, .int .i64 0, .string s, .slice A m c]] w fun e w' => e = .returned (.bool false) ∧ Below w.heap.size w w' := by
  rcases h with h | h
  · have h0i : ¬ (0 : Int) < (m : Int) := by omega
    clear h
    go_enter Tryd.func61, Tryd.ntmps61
    go_wp2_with ((go_at_call 87; refine (bare_6 _ _ _ _ _ _ _).mono ?_; rintro e w1 ⟨rfl, hb1⟩; obtain ⟨hc1, hf1⟩ := bcell hb1; have hz1 : w.heap.size < w1.heap.size := by (have := hb1.size; simp at this; omega)))
    go_ret
    exact ⟨rfl, below_more (below_box hb1) _⟩
  · have h0i : (0 : Int) < (m : Int) := by omega
    have h9i : ¬ (m : Int) ≤ 9 := by omega
    go_enter Tryd.func61, Tryd.ntmps61
    go_wp2_with ((go_at_call 87; refine (bare_6 _ _ _ _ _ _ _).mono ?_; rintro e w1 ⟨rfl, hb1⟩; obtain ⟨hc1, hf1⟩ := bcell hb1; have hz1 : w.heap.size < w1.heap.size := by (have := hb1.size; simp at this; omega)))
    all_goals go_ret
    all_goals exact ⟨rfl, below_more (below_box hb1) _⟩

theorem isEmpty_of {s : ByteArray} (h : s.size = 0) : s.toList.isEmpty = true := by
  rw [Lib.toList_data, List.isEmpty_iff]
  exact List.eq_nil_of_length_eq_zero h
theorem not_isEmpty_of {s : ByteArray} (h : ¬ s.size = 0) : s.toList.isEmpty = false := by
  rw [Lib.toList_data, List.isEmpty_eq_false_iff]
  intro e
  exact h (congrArg List.length e)

theorem right_any (k n : Int) (b : Bool) (s : ByteArray) (A : Option Addr) (p : List Int) (c : Nat) (w : World) (hr : ReadsI w A p) :
    Calls Tryd.prog 61 #[.agg #[.int .i64 k, .bool b, .int .i64 n, .string s, .slice A p.length c]] w fun e w' => e = .returned (.bool (rightB k b n s p)) ∧ Below w.heap.size w w' := by
  have hm0 : ∀ m : Nat, ¬ m = 0 → ((0 : Int) != (m : Int)) = true := fun m h => by rw [bne_iff_ne]; omega
  have hn0 : ¬ n = 0 → ¬ (0 : Int) = n := fun h e => h e.symm
  by_cases k0 : k = 0
  · subst k0
    by_cases hb : b = true
    · subst hb
      simpa [rightB] using right_0_b n s A p.length c w
    have hb : b = false := by simpa using hb
    subst hb
    by_cases hn : n = 0
    · subst hn
      by_cases hs : s.size = 0
      · by_cases hp : p.length = 0
        · rw [hp]
          simpa [rightB, hs, hp] using right_0_ok s A c w (isEmpty_of hs)
        · simpa [rightB, hp] using right_0_m s A p.length c w (isEmpty_of hs) (hm0 _ hp)
      · simpa [rightB, hs] using right_0_s s A p.length c w (not_isEmpty_of hs)
    · simpa [rightB, show (n == 0) = false from beq_eq_false_iff_ne.2 hn] using right_0_n n s A p.length c w (hn0 hn)
  by_cases k1 : k = 1
  · subst k1
    by_cases hn : n = 0
    · subst hn
      by_cases hs : s.size = 0
      · by_cases hp : p.length = 0
        · rw [hp]
          simpa [rightB, hs, hp] using right_1_ok b s A c w (isEmpty_of hs)
        · simpa [rightB, hp] using right_1_m b s A p.length c w (isEmpty_of hs) (hm0 _ hp)
      · simpa [rightB, hs] using right_1_s b s A p.length c w (not_isEmpty_of hs)
    · simpa [rightB, show (n == 0) = false from beq_eq_false_iff_ne.2 hn] using right_1_n n b s A p.length c w (hn0 hn)
  by_cases k2 : k = 2
  · subst k2
    by_cases hb : b = true
    · subst hb
      simpa [rightB] using right_2_b n s A p.length c w
    have hb : b = false := by simpa using hb
    subst hb
    by_cases hs : s.size = 0
    · by_cases hp : p.length = 0
      · rw [hp]
        simpa [rightB, hs, hp] using right_2_ok n s A c w (isEmpty_of hs)
      · simpa [rightB, hp] using right_2_m n s A p.length c w (isEmpty_of hs) (hm0 _ hp)
    · simpa [rightB, hs] using right_2_s n s A p.length c w (not_isEmpty_of hs)
  by_cases k3 : k = 3
  · subst k3
    by_cases hb : b = true
    · subst hb
      simpa [rightB] using right_3_b n s A p.length c w
    have hb : b = false := by simpa using hb
    subst hb
    by_cases hn : n = 0
    · subst hn
      by_cases hp : p.length = 0
      · rw [hp]
        simpa [rightB, hp] using right_3_ok s A c w
      · simpa [rightB, hp] using right_3_m s A p.length c w (hm0 _ hp)
    · simpa [rightB, show (n == 0) = false from beq_eq_false_iff_ne.2 hn] using right_3_n n s A p.length c w (hn0 hn)
  by_cases k4 : k = 4
  · subst k4
    by_cases hb : b = true
    · subst hb
      simpa [rightB] using right_4_b n s A p.length c w
    have hb : b = false := by simpa using hb
    subst hb
    by_cases hs : s.size = 0
    · by_cases hp : p.length = 0
      · rw [hp]
        simpa [rightB, hs, hp] using right_4_ok n s A c w (isEmpty_of hs)
      · simpa [rightB, hp] using right_4_m n s A p.length c w (isEmpty_of hs) (hm0 _ hp)
    · simpa [rightB, hs] using right_4_s n s A p.length c w (not_isEmpty_of hs)
  by_cases k5 : k = 5
  · subst k5
    by_cases hb : b = true
    · subst hb
      simpa [rightB] using right_5_b n s A p.length c w
    have hb : b = false := by simpa using hb
    subst hb
    by_cases hs : s.size = 0
    · by_cases hp : p.length = 0
      · rw [hp]
        simpa [rightB, hs, hp] using right_5_ok n s A c w (isEmpty_of hs)
      · simpa [rightB, hp] using right_5_m n s A p.length c w (isEmpty_of hs) (hm0 _ hp)
    · simpa [rightB, hs] using right_5_s n s A p.length c w (not_isEmpty_of hs)
  by_cases k6 : k = 6
  · subst k6
    by_cases hb : b = true
    · subst hb
      simpa [rightB] using right_6_b n s A p.length c w
    have hb : b = false := by simpa using hb
    subst hb
    by_cases hn : n = 0
    · subst hn
      by_cases hs : s.size = 0
      · by_cases hp : 0 < p.length ∧ p.length ≤ 9
        · have e : rightB 6 false 0 s p = p.all idB := by simp [rightB, hs, hp.1, hp.2]
          rw [e]
          exact right_6_ok s A p c w hr (isEmpty_of hs) hp.1 hp.2
        · have e : rightB 6 false 0 s p = false := by
            simp only [rightB]
            by_cases h0 : 0 < p.length
            · have : ¬ p.length ≤ 9 := fun h => hp ⟨h0, h⟩
              simp [this]
            · simp [h0]
          rw [e]
          exact right_6_many s A p.length c w (isEmpty_of hs) (by omega)
      · simpa [rightB, hs] using right_6_s s A p.length c w (not_isEmpty_of hs)
    · simpa [rightB, show (n == 0) = false from beq_eq_false_iff_ne.2 hn] using right_6_n n s A p.length c w (hn0 hn)
  have e0 : (k == 0) = false := beq_eq_false_iff_ne.2 k0
  have e1 : (k == 1) = false := beq_eq_false_iff_ne.2 k1
  have e2 : (k == 2) = false := beq_eq_false_iff_ne.2 k2
  have e3 : (k == 3) = false := beq_eq_false_iff_ne.2 k3
  have e4 : (k == 4) = false := beq_eq_false_iff_ne.2 k4
  have e5 : (k == 5) = false := beq_eq_false_iff_ne.2 k5
  have e6 : (k == 6) = false := beq_eq_false_iff_ne.2 k6
  have e : rightB k b n s p = false := by simp [rightB, k0, k1, k2, k3, k4, k5, k6]
  rw [e]
  by_cases hb : b = true
  · subst hb
    exact right_x_b k e0 e1 e2 e3 e4 e5 e6 n s A p.length c w
  have hb : b = false := by simpa using hb
  subst hb
  by_cases hn : n = 0
  · subst hn
    by_cases hs : s.size = 0
    · by_cases hp : p.length = 0
      · rw [hp]
        exact right_x_ok k e0 e1 e2 e3 e4 e5 e6 s A c w (isEmpty_of hs)
      · exact right_x_m k e0 e1 e2 e3 e4 e5 e6 s A p.length c w (isEmpty_of hs) (hm0 _ hp)
    · exact right_x_s k e0 e1 e2 e3 e4 e5 e6 s A p.length c w (not_isEmpty_of hs)
  · exact right_x_n k e0 e1 e2 e3 e4 e5 e6 n s A p.length c w (hn0 hn)
end Go.Proofs.YtkchpgjjkckfbaaDoor
