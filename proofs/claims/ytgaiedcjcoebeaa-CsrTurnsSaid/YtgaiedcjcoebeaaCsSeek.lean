/- csr.seek: the first place from one on whose number is not below another one. -/
import Derived.Test.YtgaiedcjcoebeaaCsRead
import Derived.Test.YtgaiedcjcoebeaaShelf
import Derived.Deep.LoopGhost
import Derived.Deep.Cut
set_option linter.unusedVariables false
set_option linter.unusedSimpArgs false
namespace Go.Proofs.Ytgaiedcjcoebeaa
open Go.RowKit

theorem count_seek (l : List Int) (n : Int) : ∀ (m : List Int), m.Pairwise (· ≤ ·) → (m.countP (fun x => decide (x < n))) = (m.takeWhile (fun x => decide (x < n))).length
  | [], _ => rfl
  | x :: t, h => by
    rw [List.countP_cons, List.takeWhile_cons]
    by_cases hx : x < n
    · simp only [hx, decide_true, if_true]
      rw [count_seek l n t (List.pairwise_cons.1 h).2, List.length_cons]
    · simp only [hx, decide_false, Bool.false_eq_true, if_false]
      have h0 : t.countP (fun x => decide (x < n)) = 0 := by
        rw [List.countP_eq_zero]
        intro y hy
        have := (List.pairwise_cons.1 h).1 y hy
        simp; omega
      rw [h0]
      rfl
/-- The search between two places tells the place. -/
theorem seek_cut (l : List Int) (at_ e : Nat) (n : Int) (hu : Up l) (h0 : at_ ≤ e) (h1 : e ≤ l.length) (he : e < l.length → ∀ v, l[e - 1]? = some v → at_ < e ∧ n ≤ v) :
    at_ + ((l.drop at_).take (e - at_)).countP (fun x => decide (x < n)) = seekL l at_ n := by
  have hp : ((l.drop at_).take (e - at_)).Pairwise (· ≤ ·) := ((hu.sublist (List.drop_sublist _ _)).sublist (List.take_sublist _ _)).imp (fun h => Int.le_of_lt h)
  rw [count_seek l n _ hp]
  unfold seekL
  congr 1
  by_cases hel : e < l.length
  · have hlt : e - 1 < l.length := by omega
    obtain ⟨h2, h3⟩ := he hel l[e - 1] (List.getElem?_eq_getElem hlt)
    have hsp : l.drop at_ = (l.drop at_).take (e - at_) ++ (l.drop at_).drop (e - at_) := (List.take_append_drop _ _).symm
    conv => rhs; rw [hsp]
    rw [List.takeWhile_append]
    split
    · rename_i hall
      exfalso
      have hlen : ((l.drop at_).take (e - at_)).length = e - at_ := by rw [List.length_take, List.length_drop]; omega
      have hg : ((l.drop at_).take (e - at_))[e - at_ - 1]? = some l[e - 1] := by
        rw [List.getElem?_take, if_pos (by omega), List.getElem?_drop, show at_ + (e - at_ - 1) = e - 1 by omega]
        exact List.getElem?_eq_getElem hlt
      have hm : l[e - 1] ∈ ((l.drop at_).take (e - at_)).takeWhile (fun x => decide (x < n)) := by
        rw [takeWhile_take, hall, List.take_length]
        exact List.mem_of_getElem? hg
      have := of_takeWhile _ _ _ hm
      have := of_decide_eq_true this
      omega
    · rfl
  · rw [List.take_of_length_le (by rw [List.length_drop]; omega)]
theorem seek_jump (l : List Int) (p q : Nat) (n : Int) (hu : Up l) (h0 : p ≤ q) (v : Int) (hq : l[q]? = some v) (hv : v < n) : seekL l q n = seekL l p n := by
  have hql := (List.getElem?_eq_some_iff.1 hq).1
  refine (seekL_eq l p n _ (Nat.le_trans h0 (seekL_ge l q n)) (seekL_le l q n (by omega)) (fun j x hj hlt hx => ?_) (fun x hx => seekL_at l q n x hx)).symm
  rcases Nat.lt_or_ge j q with h | h
  · have := up_lt hu h hx hq
    omega
  · exact seekL_below l q n j h hlt x hx
theorem below_drewN {w : World} (q : Nat) : Below w.heap.size w (w.drewN q) := ⟨rfl, rfl, rfl, Nat.le_refl _, fun _ _ => rfl⟩
theorem bs_any (ad : Addr) (l : List Int) (a e c : Nat) (n : Int) (w : World) (hr : ReadsI w (some ad) l) (hu : Up l) (hl : l.length ≤ 17592186044416) (ha : a ≤ e) (he : e ≤ l.length) :
    Calls Try.prog 23 #[.slice (some (ad.add a)) (e - a) c, .int .i64 n] w fun r w' => r = .returned (.tuple #[.int .i64 (((l.drop a).take (e - a)).countP (fun x => decide (x < n)) : Nat), .bool (((l.drop a).take (e - a)).contains n)]) ∧ Below w.heap.size w w' := by
  by_cases hz : e - a = 0
  · rw [hz]
    refine (Try.slices_BinarySearch_int_empty (some (ad.add a)) c n w).mono ?_
    rintro r w' ⟨rfl, rfl⟩
    exact ⟨by simp, Below.refl _ _⟩
  · obtain ⟨ad', e1, hc⟩ := hr.2 (by omega)
    obtain rfl : ad = ad' := by simpa using e1
    have hs := spot_of (hc 0 (by omega))
    have hs' : ad.spot = none := by
      unfold Addr.add at hs
      simpa using hs
    obtain ⟨bb, oo, sp⟩ := ad
    simp only at hs'
    subst hs'
    have hadd : ∀ j, (⟨bb, oo, none⟩ : Addr).add j = ⟨bb, oo + j, none⟩ := fun j => by
      unfold Addr.add
      split
      · rename_i h; rw [h, Nat.add_zero]
      · rfl
    rw [hadd]
    refine (Try.slices_BinarySearch_int bb (oo + a) (e - a) c (l.drop a) n w (by rw [List.length_drop]; omega) (by omega) (fun j hj => ?_) ?_).mono ?_
    · rw [List.length_drop] at hj
      have := hc (a + j) (by omega)
      rw [hadd, ← Nat.add_assoc] at this
      rw [this]
      simp [List.getD, List.getElem?_drop]
    · exact ((hu.sublist (List.drop_sublist _ _)).sublist (List.take_sublist _ _)).imp (fun h => Int.le_of_lt h)
    · rintro r w' ⟨rfl, q, rfl⟩
      exact ⟨rfl, below_drewN q⟩
set_option maxRecDepth 100000 in
set_option maxHeartbeats 3200000 in
theorem seek_any (A : Option Addr) (l : List Int) (c at_ : Nat) (n : Int) (w : World) (hr : ReadsI w A l) (hu : Up l) (hl : l.length ≤ 17592186044416) (hc : l.length ≤ c) (ha : at_ ≤ l.length) :
    Calls Try.prog 12 #[.slice A l.length c, .int .i64 at_, .int .i64 n] w fun e w' => e = .returned (.int .i64 (seekL l at_ n : Nat)) ∧ Below w.heap.size w w' := by
  obtain ⟨m, hm⟩ : ∃ m, m = l.length := ⟨_, rfl⟩
  obtain ⟨R, hR⟩ : ∃ R, seekL l at_ n = R := ⟨_, rfl⟩
  rw [← hm] at ha hl hc ⊢
  have hci : (m : Int) ≤ (c : Int) := by omega
  rw [hR]
  have hmi : (m : Int) ≤ 17592186044416 := by omega
  have HR := Aside0.mk hr
  have HU := Aside0.mk hu
  have HM := Aside0.mk hm
  have HS := Aside0.mk hR
  clear hr hu hm hR
  go_enter Try.func12, Try.ntmps12
  go_wp2
  go_loopg [1, 7] (m + 1) (fun gk v1 v7 wr => ∃ (a st : Nat), v1 = .int .i64 a ∧ v7 = .int .i64 st ∧ a ≤ m ∧ m < gk + a ∧ 1 ≤ st ∧ st ≤ 2 * m + 1 ∧ wr = w ∧ Aside0 (seekL l a n = R ∧ at_ ≤ a))
  case atStart => exact ⟨at_, 1, rfl, rfl, ha, by omega, by omega, by omega, rfl, ⟨HS.out, Nat.le_refl _⟩⟩
  case round =>
    obtain ⟨a, st, rfl, rfl, ham, hg, hs1, hs2, rfl, HI⟩ := hrel
    obtain ⟨q, hq⟩ : ∃ q, q = a + st := ⟨_, rfl⟩
    have hqi : (a : Int) + (st : Int) = (q : Int) := by omega
    have hsti : (st : Int) ≤ 35184372088833 := by omega
    have hai : (a : Int) ≤ (m : Int) := by omega
    have HQ := Aside0.mk hq
    have hq0 : (0 : Int) ≤ (q : Int) := by omega
    by_cases hqm : q < m
    · have hqmi : (q : Int) < (m : Int) := by omega
      have hcell : ∃ ad, A = some ad ∧ wr.cell? (ad.add q) = some (.int .i64 (l.getD q 0)) := by
        have hl' : q < l.length := by have := HM.out; omega
        obtain ⟨ad, e, hc⟩ := HR.out.2 (by omega)
        exact ⟨ad, e, hc q hl'⟩
      obtain ⟨ad, rfl, hcell⟩ := hcell
      have hel : l[q]? = some (l.getD q 0) := by
        have hl' : q < l.length := by have := HM.out; omega
        rw [List.getD_eq_getElem?_getD, List.getElem?_eq_getElem hl']; rfl
      have HEL := Aside0.mk hel
      generalize l.getD q 0 = x at hcell HEL
      clear hel hq
      by_cases hx : x < n
      · go_wp2
        go_roundg (gk - 1)
        case measure => omega
        case rel => exact ⟨q, 2 * st, by go_num, by go_num, by omega, by have := HQ.out; omega, by omega, by have := HQ.out; omega, rfl, ⟨by have h := seek_jump l a q n HU.out (by have := HQ.out; omega) x HEL.out hx; rw [h]; exact HI.out.1, by have := HI.out.2; have := HQ.out; omega⟩⟩
      · obtain ⟨e, he⟩ : ∃ e, e = q + 1 := ⟨_, rfl⟩
        have hem : e ≤ m := by omega
        have hqe : (q : Int) + 1 = (e : Int) := by omega
        have hemi : (e : Int) ≤ (m : Int) := by omega
        have hae : (a : Int) ≤ (e : Int) := by have := HQ.out; omega
        have HE := Aside0.mk he
        clear he
        have hmin : min (e : Int) (m : Int) = (e : Int) := by omega
        have hbs := bs_any ad l a e (c - a) n wr HR.out HU.out (by have := HM.out; omega) (by omega) (by have := HM.out; omega)
        have hcut := seek_cut l a e n HU.out (by omega) (by have := HM.out; omega) (fun _ v hv => by
          rw [HE.out, Nat.add_sub_cancel, HEL.out] at hv
          simp only [Option.some.injEq] at hv
          exact ⟨by have := HE.out; have := HQ.out; omega, by omega⟩)
        rw [HI.out.1] at hcut
        generalize ((l.drop a).take (e - a)).countP (fun x => decide (x < n)) = cp at hbs hcut
        generalize List.contains _ n = bq at hbs
        have hcp : (a : Int) + (cp : Int) = (R : Int) := by omega
        have HCUT := Aside0.mk hcut
        have hRm : (R : Int) ≤ 17592186044416 := by
          have h1 := seekL_le l a n (by have := HM.out; omega)
          rw [HI.out.1] at h1
          have := HM.out
          omega
        clear hcut
        go_wp2_with (go_at_call 23; go_loud (refine hbs.mono ?_))
        first
          | (intro e1 W1 he1 hb1; subst he1)
          | rintro e1 W1 ⟨rfl, hb1⟩
        go_wp2
        go_ret
        exact ⟨rfl, hb1⟩
    · have hmq : ¬ (q : Int) < (m : Int) := by omega
      obtain ⟨e, he⟩ : ∃ e, e = q + 1 := ⟨_, rfl⟩
      have hqe : (q : Int) + 1 = (e : Int) := by omega
      have hmin : min (e : Int) (m : Int) = (m : Int) := by omega
      have hbs : ∀ ad, A = some ad → _ := fun ad hA => bs_any ad l a m (c - a) n wr (hA ▸ HR.out) HU.out (by have := HM.out; omega) (by omega) (by have := HM.out; omega)
      have hcut := seek_cut l a m n HU.out (by omega) (by have := HM.out; omega) (fun h => by have := HM.out; omega)
      rw [HI.out.1] at hcut
      have hA0 : A = none → m = 0 := fun hA => by
        rcases Nat.eq_zero_or_pos l.length with h | h
        · rw [HM.out]; exact h
        · obtain ⟨ad, e1, _⟩ := HR.out.2 h
          rw [hA] at e1; cases e1
      have hRm : (R : Int) ≤ 17592186044416 := by
        have h1 := seekL_le l a n (by have := HM.out; omega)
        rw [HI.out.1] at h1
        have := HM.out
        omega
      have hbe := fun c' => Try.slices_BinarySearch_int_empty none c' n wr
      have HE := Aside0.mk he
      clear he hq hqm
      cases A with
      | none =>
        have hm0 := hA0 rfl
        subst hm0
        obtain rfl : a = 0 := by omega
        have hR0 : R = 0 := by rw [← hcut]; simp
        subst hR0
        clear hbs hA0 hcut
        go_wp2_with (go_at_call 23; refine (hbe _).mono ?_)
        go_ret
        exact ⟨rfl, Below.refl _ _⟩
      | some ad =>
        replace hbs := hbs ad rfl
        by_cases hca : c = a
        · obtain rfl : m = a := by omega
          have hR0 : R = m := by rw [← hcut]; simp
          subst hR0
          have hbe2 := Try.slices_BinarySearch_int_empty (some ad) 0 n wr
          clear hcut hA0 hbs
          go_wp2_with (go_at_call 23; refine hbe2.mono ?_)
          go_ret
          exact ⟨rfl, Below.refl _ _⟩
        · have hca2 : (a : Int) < (c : Int) := by omega
          generalize ((l.drop a).take (m - a)).countP (fun x => decide (x < n)) = cp at hbs hcut
          generalize List.contains _ n = bq at hbs
          have hcp : (a : Int) + (cp : Int) = (R : Int) := by omega
          have HCUT := Aside0.mk hcut
          clear hcut hA0
          go_wp2_with (go_at_call 23; go_loud (refine hbs.mono ?_))
          first
            | (intro e1 W1 he1 hb1; subst he1)
            | rintro e1 W1 ⟨rfl, hb1⟩
          go_wp2
          go_ret
          exact ⟨rfl, hb1⟩
end Go.Proofs.Ytgaiedcjcoebeaa
