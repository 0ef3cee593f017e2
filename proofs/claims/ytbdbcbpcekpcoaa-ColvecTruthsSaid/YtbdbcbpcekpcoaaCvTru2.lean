/- Which values are true, and whether one is a fault: the document's, and the faults. -/
import Derived.Test.YtbdbcbpcekpcoaaCvTru
set_option linter.unusedVariables false
set_option linter.unusedSimpArgs false
namespace Go.Proofs.Ytbdbcbpcekpcoaa
open Go.RowKit Go.Maps

set_option maxRecDepth 100000 in
set_option maxHeartbeats 3200000 in
theorem rtrue_any (A : Option Addr) (vs : List V5) (c : Nat) (w : World) (hr : ReadsV w A vs) (hN : vs.length ≤ 10000000000000) :
    Calls Try.prog 18 #[.slice A vs.length c] w fun e w' => ∃ v', e = .returned v' ∧ w'.ownsRow w.heap.size 3 1 v' (truL vs vs.length).length (numCells (truL vs vs.length)) ∧ Below w.heap.size w w' := by
  obtain ⟨m, hm⟩ : ∃ m, m = vs.length := ⟨_, rfl⟩
  rw [← hm] at hN ⊢
  have HM := Aside0.mk hm
  have HR := Aside0.mk hr
  have hN9 : (m : Int) ≤ 10000000000000 := by omega
  clear hr hm
  go_enter Try.func18, Try.ntmps18
  go_wp2
  go_loopg [3, 4] (m + 1) (fun gg s3 s8 wr => ∃ j : Nat, j ≤ m ∧ m < gg + j ∧ s8 = .int .i64 j ∧ wr.ownsRow w.heap.size 3 1 s3 (truL vs j).length (numCells (truL vs j)) ∧ Below w.heap.size w wr)
  case atStart => exact ⟨0, by omega, by omega, rfl, World.ownsRow_nil w w.heap.size 3 1, Below.refl _ _⟩
  case round =>
    obtain ⟨j, hj, hg, rfl, ho, HB⟩ := hrel
    by_cases hlt : j < m
    · have hlti : (j : Int) < (m : Int) := by omega
      have hj0 : (0 : Int) ≤ (j : Int) := by omega
      have hjl : j < vs.length := by have := HM.out; omega
      obtain ⟨ad, rfl, hh⟩ := HR.out.row j hjl
      have hsn := truL_succ vs j
      have hln := truL_len vs j
      generalize vs.getD j V5.zero = v at hh hsn
      obtain ⟨vk, vn, vb, vss, vA, vp, vc⟩ := v
      obtain ⟨hb, hsp, c0, c1, c2, c3, c4⟩ := hh
      simp only at c0 c1 c2 c3 c4
      rw [← HB.cell hb] at c0
      rw [← HB.cell (p := ⟨(ad.add (j * 5)).block, (ad.add (j * 5)).off + 1, none⟩) hb] at c1
      rw [← HB.cell (p := ⟨(ad.add (j * 5)).block, (ad.add (j * 5)).off + 2, none⟩) hb] at c2
      rw [← HB.cell (p := ⟨(ad.add (j * 5)).block, (ad.add (j * 5)).off + 3, none⟩) hb] at c3
      rw [← HB.cell (p := ⟨(ad.add (j * 5)).block, (ad.add (j * 5)).off + 4, none⟩) hb] at c4
      have hbl : (ad.add (j * 5)).block < wr.heap.size := by have := HB.size; omega
      have hsz : w.heap.size ≤ wr.heap.size := HB.size
      have HO := Aside0.mk ho
      have HBB := Aside0.mk HB
      clear hjl hsp ho
      by_cases hk1 : vk = 1
      · subst hk1
        cases vb
        · have hsn2 : truL vs (j + 1) = truL vs j := by rw [hsn]; simp [isT]
          have HSN := Aside0.mk hsn2
          clear hsn hsn2
          go_wp2
          go_roundg (gk - 1)
          case measure => omega
          case rel => exact ⟨j + 1, by omega, by omega, by go_num, by rw [HSN.out]; exact HO.out, HBB.out⟩
        · have hsn2 : truL vs (j + 1) = truL vs j ++ [(j : Int)] := by rw [hsn]; simp [isT]
          have HSN := Aside0.mk hsn2
          clear hsn hsn2
          go_wp2_with (at_builtin; go_loud (refine append_int (w0 := w) (wr := wr) rfl (.tmp 24) (.tmp 26) rfl w.heap.size u3 (truL vs j).length (numCells (truL vs j)) rfl HO.out (j : Int) rfl (by omega) hsz HBB.out (Nat.le_refl _) ?_))
          intro v' W2 ho2 hb2
          go_wp2
          go_roundg (gk - 1)
          case measure => omega
          case rel => exact ⟨j + 1, by omega, by omega, by go_num, by rw [HSN.out, List.length_append, numCells_snoc]; exact ho2, hb2⟩
      · have hk1b : (vk == 1) = false := by rw [beq_eq_false_iff_ne]; exact hk1
        have hsn2 : truL vs (j + 1) = truL vs j := by rw [hsn]; simp [isT, hk1]
        have HSN := Aside0.mk hsn2
        clear hsn hsn2
        go_wp2
        go_roundg (gk - 1)
        case measure => omega
        case rel => exact ⟨j + 1, by omega, by omega, by go_num, by rw [HSN.out]; exact HO.out, HBB.out⟩
    · obtain rfl : j = m := by omega
      go_wp2
      go_ret
      exact ⟨_, rfl, ho, HB⟩
theorem flt_drop (vs : List V5) (j : Nat) (h : j < vs.length) : (vs.drop j).any (fun v => v.k == 7) = (((vs.getD j V5.zero).k == 7) || (vs.drop (j + 1)).any fun v => v.k == 7) := by
  rw [List.drop_eq_getElem_cons h, List.any_cons, List.getD_eq_getElem?_getD, List.getElem?_eq_getElem h]
  rfl
set_option maxRecDepth 100000 in
set_option maxHeartbeats 3200000 in
theorem fclosure_any (k n : Int) (b : Bool) (s : ByteArray) (A : Option Addr) (p : List Int) (c : Nat) (w : World) :
    Calls Try.prog 33 #[.agg #[.int .i64 k, .bool b, .int .i64 n, .string s, .slice A p.length c]] w fun e w' => e = .returned (.bool (k == 7)) ∧ Below w.heap.size w w' := by
  go_enter Try.func33, Try.ntmps33
  go_wp2
  go_ret
  exact ⟨rfl, below_more (Below.refl _ _) _⟩
set_option maxRecDepth 100000 in
set_option maxHeartbeats 3200000 in
theorem findex_any (A : Option Addr) (vs : List V5) (c : Nat) (w : World) (hr : ReadsV w A vs) :
    Calls Try.prog 40 #[.slice A vs.length c, .func (.func 33) #[] #[]] w fun e w' => ∃ z : Int, e = .returned (.int .i64 z) ∧ decide (0 ≤ z) = fltB vs ∧ Below w.heap.size w w' := by
  have hlen := hr.len
  obtain ⟨m, hm⟩ : ∃ m, m = vs.length := ⟨_, rfl⟩
  rw [← hm] at hlen ⊢
  have HM := Aside0.mk hm
  have HR := Aside0.mk hr
  clear hr hm
  go_enter Try.func40, Try.ntmps40
  go_wp2
  go_loopg [5, 8] (m + 1) (fun gg _ s8 wr => ∃ j : Nat, j ≤ m ∧ m < gg + j ∧ s8 = .int .i64 j ∧ Below w.heap.size w wr ∧ Aside0 (fltB vs = (vs.drop j).any fun v => v.k == 7))
  case atStart => exact ⟨0, Nat.zero_le _, by omega, rfl, Below.refl _ _, ⟨rfl⟩⟩
  case round =>
    obtain ⟨j, hj, hg, rfl, HB, HF⟩ := hrel
    by_cases hlt : j < m
    · have hlti : (j : Int) < (m : Int) := by omega
      have hj0 : (0 : Int) ≤ (j : Int) := by omega
      have hjl : j < vs.length := by have := HM.out; omega
      obtain ⟨ad, rfl, hh⟩ := HR.out.row j hjl
      have hdr := flt_drop vs j hjl
      generalize vs.getD j V5.zero = v at hh hdr
      obtain ⟨vk, vn, vb, vss, vA, vp, vc⟩ := v
      obtain ⟨hb, hsp, c0, c1, c2, c3, c4⟩ := hh
      simp only at c0 c1 c2 c3 c4
      rw [← HB.cell hb] at c0
      rw [← HB.cell (p := ⟨(ad.add (j * 5)).block, (ad.add (j * 5)).off + 1, none⟩) hb] at c1
      rw [← HB.cell (p := ⟨(ad.add (j * 5)).block, (ad.add (j * 5)).off + 2, none⟩) hb] at c2
      rw [← HB.cell (p := ⟨(ad.add (j * 5)).block, (ad.add (j * 5)).off + 3, none⟩) hb] at c3
      rw [← HB.cell (p := ⟨(ad.add (j * 5)).block, (ad.add (j * 5)).off + 4, none⟩) hb] at c4
      have hcall := fclosure_any vk vn vb vss vA vp vc wr
      have HBB := Aside0.mk HB
      have HDR := Aside0.mk hdr
      clear hjl hsp hdr
      by_cases hk7 : vk = 7
      · subst hk7
        have hcall2 : Calls Try.prog 33 #[.agg #[.int .i64 7, .bool vb, .int .i64 vn, .string vss, .slice vA vp.length vc]] wr fun e w' => e = .returned (.bool true) ∧ Below wr.heap.size wr w' := hcall
        clear hcall
        go_wp2_with (go_at_call 33; refine hcall2.mono ?_; rintro e w2 ⟨rfl, hb2⟩)
        go_ret
        exact ⟨_, rfl, by rw [HF.out, HDR.out]; simp, below_then HBB.out hb2⟩
      · have e7 : (vk == 7) = false := by rw [beq_eq_false_iff_ne]; exact hk7
        rw [e7] at hcall
        clear e7
        have HK7 := Aside0.mk hk7
        clear hk7
        go_wp2_with (go_at_call 33; refine hcall.mono ?_; rintro e w2 ⟨rfl, hb2⟩)
        go_roundg (gk - 1)
        case measure => omega
        case rel => exact ⟨j + 1, by omega, by omega, by go_num, below_then HBB.out hb2, ⟨by rw [HF.out, HDR.out]; simp [HK7.out]⟩⟩
    · obtain rfl : j = m := by omega
      have hd : vs.drop j = [] := List.drop_eq_nil_of_le (by have := HM.out; omega)
      have hff : fltB vs = false := by rw [HF.out, hd]; rfl
      have HFF := Aside0.mk hff
      clear hd hff
      go_wp2
      go_ret
      exact ⟨_, rfl, by rw [HFF.out]; rfl, HB⟩
set_option maxRecDepth 100000 in
set_option maxHeartbeats 3200000 in
theorem faults_any (A : Option Addr) (vs : List V5) (c : Nat) (w : World) (hr : ReadsV w A vs) :
    Calls Try.prog 19 #[.slice A vs.length c] w fun e w' => e = .returned (.bool (fltB vs)) ∧ Below w.heap.size w w' := by
  have hc : Calls Try.prog 32 #[.slice A vs.length c, .func (.func 33) #[] #[]] w fun e w' => e = .returned (.bool (fltB vs)) ∧ Below w.heap.size w w' := by
    go_enter Try.func32, Try.ntmps32
    go_wp2_with (go_at_call 40; refine (findex_any _ _ _ _ hr).mono ?_; rintro e w2 ⟨z, rfl, hz, hb2⟩)
    go_ret
    exact ⟨by rw [← hz]; rfl, hb2⟩
  go_enter Try.func19, Try.ntmps19
  go_wp2_with (go_at_call 32; refine hc.mono ?_; rintro e w2 ⟨rfl, hb2⟩)
  go_ret
  exact ⟨rfl, hb2⟩
set_option maxRecDepth 100000 in
set_option maxHeartbeats 3200000 in
theorem rfaults_any (A : Option Addr) (vs : List V5) (c : Nat) (w : World) (hr : ReadsV w A vs) :
    Calls Try.prog 20 #[.slice A vs.length c] w fun e w' => e = .returned (.bool (fltB vs)) ∧ w' = w := by
  have hlen := hr.len
  obtain ⟨m, hm⟩ : ∃ m, m = vs.length := ⟨_, rfl⟩
  rw [← hm] at hlen ⊢
  have HM := Aside0.mk hm
  have HR := Aside0.mk hr
  obtain ⟨ANS, hA⟩ : ∃ ANS, ANS = fltB vs := ⟨_, rfl⟩
  rw [← hA]
  have HA := Aside0.mk hA
  clear hr hm hA
  go_enter Try.func20, Try.ntmps20
  go_wp2
  go_loopg [3] (m + 1) (fun gg s3 wr => ∃ j : Nat, j ≤ m ∧ m < gg + j ∧ s3 = .int .i64 j ∧ wr = w ∧ Aside0 (ANS = (vs.drop j).any fun v => v.k == 7))
  case atStart => exact ⟨0, Nat.zero_le _, by omega, rfl, rfl, ⟨HA.out⟩⟩
  case round =>
    obtain ⟨j, hj, hg, rfl, rfl, HF⟩ := hrel
    by_cases hlt : j < m
    · have hlti : (j : Int) < (m : Int) := by omega
      have hj0 : (0 : Int) ≤ (j : Int) := by omega
      have hjl : j < vs.length := by have := HM.out; omega
      obtain ⟨ad, rfl, hh⟩ := HR.out.row j hjl
      have hdr := flt_drop vs j hjl
      generalize vs.getD j V5.zero = v at hh hdr
      obtain ⟨vk, vn, vb, vss, vA, vp, vc⟩ := v
      obtain ⟨hb, hsp, c0, c1, c2, c3, c4⟩ := hh
      simp only at c0
      have HDR := Aside0.mk hdr
      clear hjl hsp hdr c1 c2 c3 c4
      by_cases hk7 : vk = 7
      · subst hk7
        go_wp2
        go_ret
        exact ⟨by rw [HF.out, HDR.out]; simp, rfl⟩
      · have e7 : (vk == 7) = false := by rw [beq_eq_false_iff_ne]; exact hk7
        have HK7 := Aside0.mk hk7
        go_wp2
        go_roundg (gk - 1)
        case measure => omega
        case rel => exact ⟨j + 1, by omega, by omega, by go_num, rfl, ⟨by rw [HF.out, HDR.out]; simp [HK7.out]⟩⟩
    · obtain rfl : j = m := by omega
      have hd : vs.drop j = [] := List.drop_eq_nil_of_le (by have := HM.out; omega)
      have hff : ANS = false := by rw [HF.out, hd]; rfl
      subst hff
      clear hd
      go_wp2
      go_ret
      exact ⟨rfl, rfl⟩
end Go.Proofs.Ytbdbcbpcekpcoaa
