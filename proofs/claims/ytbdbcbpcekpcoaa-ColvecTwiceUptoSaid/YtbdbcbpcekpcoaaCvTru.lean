/- Which values are true, and whether one is a fault. -/
import Derived.Test.YtbdbcbpcekpcoaaCvHead
set_option linter.unusedVariables false
set_option linter.unusedSimpArgs false
namespace Go.Proofs.Ytbdbcbpcekpcoaa
open Go.RowKit Go.Maps

theorem info_int : (Try.prog.info? 3).map (fun i => (i.zero, i.size, i.bytes)) = some (some (.int .i64 0), 1, 8) := by kernel_rfl
/-- The places of what is true. -/
def isT (v : V5) : Bool := v.k == 1 && v.b
def truL (vs : List V5) (n : Nat) : List Int := ((List.range n).filter fun i => isT (vs.getD i V5.zero)).map fun (i : Nat) => (i : Int)
theorem truL_succ (vs : List V5) (n : Nat) : truL vs (n + 1) = truL vs n ++ if isT (vs.getD n V5.zero) then [(n : Int)] else [] := by
  rw [truL, List.range_succ, List.filter_append, List.map_append, List.filter_cons, List.filter_nil]
  cases isT (vs.getD n V5.zero) <;> rfl
theorem truL_len (vs : List V5) (n : Nat) : (truL vs n).length ≤ n := by
  rw [truL, List.length_map]
  exact Nat.le_trans (List.length_filter_le _ _) (by simp)
def fltB (vs : List V5) : Bool := vs.any fun v => v.k == 7
/-- An append of one int to an own row. -/
theorem append_int {w0 wr : World} {ops : Array Oper} {rest : List Oper} {o : Oper} {a : Act} {Q : Exit → Act → World → Prop} (hgd : o.guard = none) (s x : Operand)
    (ho : o.op = .call { callee := .builtin .append, args := #[s, x], argTypes := #[41, 41] }) (B : Nat)
    (v : Value) (n : Nat) (xs : List Value) (hs : a.eval s = v) (hown : wr.ownsRow B 3 1 v n xs) (b : Int) (hx : a.eval x = .slice (some ⟨wr.heap.size, 0, none⟩) 1 1)
    (hn : n ≤ 10000000000000) (hB : B ≤ wr.heap.size) (hb : Below B w0 wr) (hw : B ≤ w0.heap.size)
    (h : ∀ v' w', w'.ownsRow B 3 1 v' (n + 1) (xs ++ [.int .i64 b]) → Below B w0 w' → wpList Try.prog ops Q rest (a.put o.dst v') w') :
    wpList Try.prog ops Q (o :: rest) a (wr.alloc (.cells #[.int .i64 b] 3)) := by
  obtain ⟨i0, hi, hz0, hz1, hz2⟩ := info_parts info_int
  refine wpList_append_own_at (w := wr.alloc (.cells #[.int .i64 b] 3)) hgd s x 41 ho B 3 i0 (.int .i64 0) 1 8 Try.underlying41 hi hz0 hz1 hz2 rfl (by decide) v n xs hs (hown.alloc _) ⟨wr.heap.size, 0, none⟩ 1 1 [.int .i64 b] hx rfl (cell_one_new _ _ _) (by intro u hu; simp at hu; subst hu; rfl) (by unfold maxLen; omega) (by omega) (by simp; omega) ?_
  intro v' w' h1 h2 _ h4
  refine h v' w' h1 ?_
  have hg := (World.grownBy_alloc wr (.cells #[.int .i64 b] 3) v.ownBlock).trans h2
  exact ⟨hg.os.trans hb.os, hg.tape.trans hb.tape, hg.output.trans hb.output, Nat.le_trans hb.size hg.size, fun k hk => (hg.block k (by have := hb.size; omega) (fun e => by have := (hown.lt k e.symm).1; omega)).trans (hb.block k hk)⟩
set_option maxRecDepth 100000 in
set_option maxHeartbeats 3200000 in
theorem true_any (A : Option Addr) (vs : List V5) (c : Nat) (w : World) (hr : ReadsV w A vs) (hN : vs.length ≤ 10000000000000) :
    Calls Try.prog 17 #[.slice A vs.length c] w fun e w' => ∃ v', e = .returned v' ∧ w'.ownsRow w.heap.size 3 1 v' (truL vs vs.length).length (numCells (truL vs vs.length)) ∧ Below w.heap.size w w' := by
  obtain ⟨m, hm⟩ : ∃ m, m = vs.length := ⟨_, rfl⟩
  rw [← hm] at hN ⊢
  have HM := Aside0.mk hm
  have HR := Aside0.mk hr
  have hN9 : (m : Int) ≤ 10000000000000 := by omega
  clear hr hm
  go_enter Try.func17, Try.ntmps17
  go_wp2
  go_loopg [3, 8] (m + 1) (fun gg s3 s8 wr => ∃ j : Nat, j ≤ m ∧ m < gg + j ∧ s8 = .int .i64 j ∧ wr.ownsRow w.heap.size 3 1 s3 (truL vs j).length (numCells (truL vs j)) ∧ Below w.heap.size w wr)
  case atStart => exact ⟨0, by omega, by omega, rfl, World.ownsRow_nil w w.heap.size 3 1, Below.refl _ _⟩
  case round =>
    obtain ⟨j, hj, hg, rfl, ho, HB⟩ := hrel
    by_cases hlt : j < m
    · have hlti : (j : Int) < (m : Int) := by omega
      have hj0 : (0 : Int) ≤ (j : Int) := by omega
      have hjl : j < vs.length := by have := HM.out; omega
      obtain ⟨ad, rfl, hh⟩ := HR.out.row j hjl
      have hsn := truL_succ vs j
      have hln := truL_len vs j
      generalize vs.getD j V5.zero = v at hh hsn
      obtain ⟨vk, vn, vb, vss, vA, vp, vc⟩ := v
      obtain ⟨hb, hsp, c0, c1, c2, c3, c4⟩ := hh
      simp only at c0 c1 c2 c3 c4
      rw [← HB.cell hb] at c0
      rw [← HB.cell (p := ⟨(ad.add (j * 5)).block, (ad.add (j * 5)).off + 1, none⟩) hb] at c1
      rw [← HB.cell (p := ⟨(ad.add (j * 5)).block, (ad.add (j * 5)).off + 2, none⟩) hb] at c2
      rw [← HB.cell (p := ⟨(ad.add (j * 5)).block, (ad.add (j * 5)).off + 3, none⟩) hb] at c3
      rw [← HB.cell (p := ⟨(ad.add (j * 5)).block, (ad.add (j * 5)).off + 4, none⟩) hb] at c4
      have hbl : (ad.add (j * 5)).block < wr.heap.size := by have := HB.size; omega
      have hsz : w.heap.size ≤ wr.heap.size := HB.size
      have HO := Aside0.mk ho
      have HBB := Aside0.mk HB
      clear hjl hsp ho
      by_cases hk1 : vk = 1
      · subst hk1
        cases vb
        · have hsn2 : truL vs (j + 1) = truL vs j := by rw [hsn]; simp [isT]
          have HSN := Aside0.mk hsn2
          clear hsn hsn2
          go_wp2
          go_roundg (gk - 1)
          case measure => omega
          case rel => exact ⟨j + 1, by omega, by omega, by go_num, by rw [HSN.out]; exact HO.out.alloc _, below_more HBB.out _⟩
        · have hsn2 : truL vs (j + 1) = truL vs j ++ [(j : Int)] := by rw [hsn]; simp [isT]
          have HSN := Aside0.mk hsn2
          clear hsn hsn2
          have ho1 := fun o : Obj => HO.out.alloc o
          have hb1 := fun o : Obj => below_more HBB.out o
          go_upto_region 6 with (fail)
          obtain ⟨Wb, hWb⟩ : ∃ Wb, Wb = wr.alloc (.cells #[.int .i64 1, .bool true, .int .i64 vn, .string vss, .slice vA vp.length vc] 32) := ⟨_, rfl⟩
          rw [← hWb]
          have ho1b := ho1 (.cells #[.int .i64 1, .bool true, .int .i64 vn, .string vss, .slice vA vp.length vc] 32)
          have hb1b := hb1 (.cells #[.int .i64 1, .bool true, .int .i64 vn, .string vss, .slice vA vp.length vc] 32)
          rw [← hWb] at ho1b hb1b
          clear ho1 hb1 hWb
          go_wp2_with (at_builtin; go_loud (refine append_int (w0 := w) (wr := Wb) rfl (.tmp 20) (.tmp 22) rfl w.heap.size u3 (truL vs j).length (numCells (truL vs j)) rfl ho1b (j : Int) rfl (by omega) hb1b.size hb1b (Nat.le_refl _) ?_))
          intro v' W2 ho2 hb2
          go_wp2
          go_roundg (gk - 1)
          case measure => omega
          case rel => exact ⟨j + 1, by omega, by omega, by go_num, by rw [HSN.out, List.length_append, numCells_snoc]; exact ho2, hb2⟩
      · have hk1b : (vk == 1) = false := by rw [beq_eq_false_iff_ne]; exact hk1
        have hsn2 : truL vs (j + 1) = truL vs j := by rw [hsn]; simp [isT, hk1]
        have HSN := Aside0.mk hsn2
        clear hsn hsn2
        go_wp2
        go_roundg (gk - 1)
        case measure => omega
        case rel => exact ⟨j + 1, by omega, by omega, by go_num, by rw [HSN.out]; exact HO.out.alloc _, below_more HBB.out _⟩
    · obtain rfl : j = m := by omega
      go_wp2
      go_ret
      exact ⟨_, rfl, ho, HB⟩
end Go.Proofs.Ytbdbcbpcekpcoaa
