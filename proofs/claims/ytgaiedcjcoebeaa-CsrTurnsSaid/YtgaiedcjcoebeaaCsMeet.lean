/- csr.Meet: what rising lists have in common. -/
import Derived.Test.YtgaiedcjcoebeaaCsSeek
import Derived.Test.YtgaiedcjcoebeaaRegS
import Derived.OwnWalk
import Derived.Laws.MakeOwn
import Derived.Laws.OwnMore
import Derived.Laws.AppendOwn
import Derived.Deep.Cut
import Derived.ScopeJumps
set_option linter.unusedVariables false
set_option linter.unusedSimpArgs false
namespace Go.Proofs.Ytgaiedcjcoebeaa
open Go.RowKit

def numCells (p : List Int) : List Value := p.map fun n => .int .i64 n
def natCells (p : List Nat) : List Value := p.map fun (n : Nat) => .int .i64 (n : Int)
theorem info_int : (Try.prog.info? 3).map (fun i => (i.zero, i.size, i.bytes)) = some (some (.int .i64 0), 1, 8) := by kernel_rfl
/-- A row of places. -/
def RowA (W : World) (g : Nat) (ats : List Nat) : Prop := W.heap[g]? = some (.cells (natCells ats).toArray 3 (0, 0))
theorem RowA.lt {W : World} {g : Nat} {ats : List Nat} (h : RowA W g ats) : g < W.heap.size := (Array.getElem?_eq_some_iff.1 h).1
theorem RowA.cell {W : World} {g : Nat} {ats : List Nat} (h : RowA W g ats) (j : Nat) (hj : j < ats.length) : W.cell? ⟨g, j, none⟩ = some (.int .i64 ((ats.getD j 0 : Nat) : Int)) := by
  unfold World.cell?
  rw [h]
  simp [natCells, List.getD, hj]
theorem RowA.free {W : World} {g : Nat} {ats : List Nat} (h : RowA W g ats) (j : Nat) : W.frozen? ⟨g, j, none⟩ = false := Lib.frozen_of_heap h j
theorem RowA.put {W : World} {g : Nat} {ats : List Nat} (h : RowA W g ats) (j p : Nat) : RowA (W.setCell ⟨g, j, none⟩ (.int .i64 (p : Int))) g (ats.set j p) := by
  have h2 := heap_setCell_same W g j _ 3 (.int .i64 (p : Int)) h
  unfold RowA
  rw [h2]
  simp [natCells, List.map_set]
theorem RowA.kept {W W' : World} {g : Nat} {ats : List Nat} (h : RowA W g ats) (hb : Below W.heap.size W W') : RowA W' g ats := (hb.block g h.lt).trans h
theorem own_kept {w w' : World} {B : Nat} {e : TypeId} {z : Nat} {v : Value} {n : Nat} {xs : List Value} (h : w.ownsRow B e z v n xs) (hb : Below w.heap.size w w') : w'.ownsRow B e z v n xs := by
  rcases h with ⟨h1, h2 | ⟨g, cap, cur, e1, e2, e3, e4⟩⟩
  · exact ⟨h1, .inl h2⟩
  · exact ⟨h1, .inr ⟨g, cap, cur, e1, e2, (hb.block g (Array.getElem?_eq_some_iff.1 e3).1).trans e3, e4⟩⟩
theorem own_off {w : World} {B b j : Nat} {e : TypeId} {z : Nat} {v u : Value} {n : Nat} {xs : List Value} (h : w.ownsRow B e z v n xs) (hb : b < B) : (w.setCell ⟨b, j, none⟩ u).ownsRow B e z v n xs := by
  rcases h with ⟨h1, h2 | ⟨g, cap, cur, e1, e2, e3, e4⟩⟩
  · exact ⟨h1, .inl h2⟩
  · exact ⟨h1, .inr ⟨g, cap, cur, e1, e2, (heap_setCell_other w ⟨b, j, none⟩ g u (by simp; omega)).trans e3, e4⟩⟩
theorem cell_off {W : World} {g k : Nat} {u x : Value} {q : Addr} (h : W.cell? q = some x) (hq : q.block ≠ g) : (W.setCell ⟨g, k, none⟩ u).cell? q = some x := by
  unfold World.cell? at *
  rw [heap_setCell_other W ⟨g, k, none⟩ q.block u (by simp; omega)]
  exact h
theorem rowA_next {W W' : World} {g : Nat} {ats : List Nat} (hb : Below W.heap.size W W') (h : RowA W g ats) : RowA W' g ats := h.kept hb
theorem own_next {W W' : World} {B : Nat} {e : TypeId} {z : Nat} {v : Value} {n : Nat} {xs : List Value} (hb : Below W.heap.size W W') (h : W.ownsRow B e z v n xs) : W'.ownsRow B e z v n xs := own_kept h hb
theorem own_base {w : World} {B C : Nat} {e : TypeId} {z : Nat} {v : Value} {n : Nat} {xs : List Value} (h : w.ownsRow B e z v n xs) (hc : C ≤ B) : w.ownsRow C e z v n xs := by
  rcases h with ⟨h1, h2 | ⟨g, cap, cur, e1, e2, e3⟩⟩
  · exact ⟨h1, .inl h2⟩
  · exact ⟨h1, .inr ⟨g, cap, cur, e1, by omega, e3⟩⟩
theorem below_drew {w W : World} (h : Below w.heap.size w W) : Below w.heap.size w W.drew := h.drew
theorem below_drewn {w W : World} (h : Below w.heap.size w W) (n : Nat) : Below w.heap.size w (W.drewN n) := ⟨h.os, h.tape, h.output, h.size, h.block⟩
/-- What an append leaves, as the walks hand it on. -/
theorem below_grow {B : Nat} {w0 w w' : World} {row : Option Nat} (h : Below B w0 w) (hB : B ≤ w0.heap.size) (hg : w.grownBy w' row) (hr : ∀ k, row = some k → B ≤ k) : Below B w0 w' := by
  refine ⟨hg.os.trans h.os, hg.tape.trans h.tape, hg.output.trans h.output, Nat.le_trans h.size hg.size, fun k hk => ?_⟩
  exact (hg.block k (by have := h.size; omega) (fun e => by have := hr k e.symm; omega)).trans (h.block k hk)
/-- An append of one number to an own row. -/
theorem append_num {wr : World} {ops : Array Oper} {rest : List Oper} {o : Oper} {a : Act} {Q : Exit → Act → World → Prop} (hgd : o.guard = none) (s x : Operand)
    (ho : o.op = .call { callee := .builtin .append, args := #[s, x], argTypes := #[24, 24] }) (B : Nat)
    (v : Value) (n : Nat) (xs : List Value) (hs : a.eval s = v) (hown : wr.ownsRow B 3 1 v n xs) (b : Int) (hx : a.eval x = .slice (some ⟨wr.heap.size, 0, none⟩) 1 1)
    (hn : n < 17592186044416) (hB : B ≤ wr.heap.size)
    (h : ∀ v' w', w'.ownsRow B 3 1 v' (n + 1) (xs ++ [.int .i64 b]) → (∀ k, k < B → k < wr.heap.size → w'.heap[k]? = wr.heap[k]?) → Below B wr w' → wpList Try.prog ops Q rest (a.put o.dst v') w') :
    wpList Try.prog ops Q (o :: rest) a (wr.alloc (.cells #[.int .i64 b] 3)) := by
  obtain ⟨i0, hi, hz0, hz1, hz2⟩ := info_parts info_int
  refine wpList_append_own (wr.alloc (.cells #[.int .i64 b] 3)) hgd s x 24 ho B 3 i0 (.int .i64 0) 1 8 Try.underlying24 hi hz0 hz1 hz2 rfl (by decide) v n xs hs (hown.alloc _) ⟨wr.heap.size, 0, none⟩ 1 1 [.int .i64 b] hx rfl ?c1 ?c2 ?c3 ?c4 ?c5 ?_
  case c1 =>
    intro j u hj
    match j, hj with
    | 0, hj => simp at hj; subst hj; simp [Addr.add]
  case c2 => intro u hu; simp at hu; subst hu; rfl
  case c3 => unfold maxLen; omega
  case c4 => omega
  case c5 => simp; omega
  intro v' w2 ho1 hg1 _
  have hb := below_grow (w0 := wr) ((Below.refl B wr).alloc hB _) hB hg1 (fun k e => (hown.lt k e).1)
  exact h v' w2 ho1 (fun k hk _ => hb.block k hk) hb
/-- Whether all lists rise. -/
def upAll (ls : List (List Int)) : Bool := ls.all fun l => decide (Up l)
theorem upAll_iff (ls : List (List Int)) : upAll ls = true ↔ ∀ l ∈ ls, Up l := by simp [upAll]
/-- What csr.Meet answers. -/
def meetE (ls : List (List Int)) : Int := if ls = [] then 1 else if upAll ls then 0 else 61
def meetL (ls : List (List Int)) : List Int := if upAll ls then commonL ls else []
theorem common_len (ls : List (List Int)) (hne : ls ≠ []) : (commonL ls).length ≤ (ls.getD 0 []).length := by
  match ls, hne with
  | x :: r, _ => exact List.length_filter_le _ _

set_option maxRecDepth 100000 in
set_option maxHeartbeats 12800000 in
theorem meet_any (A : Option Addr) (rs : List R3) (c : Nat) (w : World) (hr : ReadsL w A rs) (hsm : Small rs) :
    Calls Try.prog 7 #[.slice A rs.length c] w fun e w' => ∃ v, e = .returned (.tuple #[v, .int .i64 (meetE (lsOf rs))]) ∧ w'.ownsRow w.heap.size 3 1 v (meetL (lsOf rs)).length (numCells (meetL (lsOf rs))) ∧ Below w.heap.size w w' := by
  obtain ⟨m, hm⟩ : ∃ m, m = rs.length := ⟨_, rfl⟩
  obtain ⟨ls, hls⟩ : ∃ ls, ls = lsOf rs := ⟨_, rfl⟩
  rw [← hm, ← hls]
  have hlm : ls.length = m := by rw [hls, hm]; simp [lsOf]
  have hm63 : (m : Int) ≤ 5864062014805 := by have := hsm.rows; omega
  have HR := Aside0.mk hr
  have HS := Aside0.mk hsm
  have HM := Aside0.mk hm
  have HL := Aside0.mk hls
  have HLM := Aside0.mk hlm
  clear hr hsm hm hls hlm
  by_cases hm0 : m = 0
  · subst hm0
    have hl0 : ls = [] := List.length_eq_zero_iff.1 HLM.out
    subst hl0
    go_enter Try.func7, Try.ntmps7
    go_wp2
    refine wp_scope_jumps 0 (fun a' w' => False) (fun _ _ => 0) rfl ?first0 ?pass0
    case pass0 => intro a' w' h; exact h.elim
    case first0 =>
      go_wp2
      first
        | go_ret2
        | (simp only [Exit.jump]; go_ret2)
      exact ⟨_, rfl, World.ownsRow_nil _ _ _ _, Below.refl _ _⟩
  have hm1 : (0 : Int) < (m : Int) := by omega
  have hmb : ((m : Int) == 0) = false := by rw [beq_eq_false_iff_ne]; omega
  go_enter Try.func7, Try.ntmps7
  go_wp2
  refine wp_scope_jumps 0 (fun a' w' => ∃ v, a' = { tmps := #[(a'.tmps.getD 0 undef), (a'.tmps.getD 1 undef), (a'.tmps.getD 2 undef), (a'.tmps.getD 3 undef), (a'.tmps.getD 4 undef), (a'.tmps.getD 5 undef), (a'.tmps.getD 6 undef), v, (a'.tmps.getD 8 undef), (a'.tmps.getD 9 undef), (a'.tmps.getD 10 undef), (a'.tmps.getD 11 undef), (a'.tmps.getD 12 undef), (a'.tmps.getD 13 undef), (a'.tmps.getD 14 undef), (a'.tmps.getD 15 undef), (a'.tmps.getD 16 undef), (a'.tmps.getD 17 undef), (a'.tmps.getD 18 undef), (a'.tmps.getD 19 undef), (a'.tmps.getD 20 undef), (a'.tmps.getD 21 undef), (a'.tmps.getD 22 undef), (a'.tmps.getD 23 undef), (a'.tmps.getD 24 undef), (a'.tmps.getD 25 undef), (a'.tmps.getD 26 undef), (a'.tmps.getD 27 undef), (a'.tmps.getD 28 undef), (a'.tmps.getD 29 undef), (a'.tmps.getD 30 undef), (a'.tmps.getD 31 undef), (a'.tmps.getD 32 undef), (a'.tmps.getD 33 undef), (a'.tmps.getD 34 undef), (a'.tmps.getD 35 undef), (a'.tmps.getD 36 undef), (a'.tmps.getD 37 undef), (a'.tmps.getD 38 undef), (a'.tmps.getD 39 undef), (a'.tmps.getD 40 undef), (a'.tmps.getD 41 undef), (a'.tmps.getD 42 undef), (a'.tmps.getD 43 undef), (a'.tmps.getD 44 undef), (a'.tmps.getD 45 undef), (a'.tmps.getD 46 undef), (a'.tmps.getD 47 undef), (a'.tmps.getD 48 undef), (a'.tmps.getD 49 undef), (a'.tmps.getD 50 undef), (a'.tmps.getD 51 undef), (a'.tmps.getD 52 undef), (a'.tmps.getD 53 undef), (a'.tmps.getD 54 undef), (a'.tmps.getD 55 undef), (a'.tmps.getD 56 undef), (a'.tmps.getD 57 undef), (a'.tmps.getD 58 undef), (a'.tmps.getD 59 undef), (a'.tmps.getD 60 undef), (a'.tmps.getD 61 undef), (a'.tmps.getD 62 undef), (a'.tmps.getD 63 undef), (a'.tmps.getD 64 undef), (a'.tmps.getD 65 undef), (a'.tmps.getD 66 undef), (a'.tmps.getD 67 undef), (a'.tmps.getD 68 undef), (a'.tmps.getD 69 undef), (a'.tmps.getD 70 undef), (a'.tmps.getD 71 undef), (a'.tmps.getD 72 undef), (a'.tmps.getD 73 undef), (a'.tmps.getD 74 undef), (a'.tmps.getD 75 undef), (a'.tmps.getD 76 undef), (a'.tmps.getD 77 undef), (a'.tmps.getD 78 undef), (a'.tmps.getD 79 undef), (a'.tmps.getD 80 undef), (a'.tmps.getD 81 undef), (a'.tmps.getD 82 undef), (a'.tmps.getD 83 undef), (a'.tmps.getD 84 undef), (a'.tmps.getD 85 undef), (a'.tmps.getD 86 undef), (a'.tmps.getD 87 undef), (a'.tmps.getD 88 undef), (a'.tmps.getD 89 undef), (a'.tmps.getD 90 undef), (a'.tmps.getD 91 undef), (a'.tmps.getD 92 undef), (a'.tmps.getD 93 undef), (a'.tmps.getD 94 undef), (a'.tmps.getD 95 undef), (a'.tmps.getD 96 undef), (a'.tmps.getD 97 undef), (a'.tmps.getD 98 undef), (a'.tmps.getD 99 undef), (a'.tmps.getD 100 undef), (a'.tmps.getD 101 undef), (a'.tmps.getD 102 undef), (a'.tmps.getD 103 undef), (a'.tmps.getD 104 undef), (a'.tmps.getD 105 undef), (a'.tmps.getD 106 undef), (a'.tmps.getD 107 undef), (a'.tmps.getD 108 undef), (a'.tmps.getD 109 undef), (a'.tmps.getD 110 undef), (a'.tmps.getD 111 undef), (a'.tmps.getD 112 undef), (a'.tmps.getD 113 undef), (a'.tmps.getD 114 undef), (a'.tmps.getD 115 undef), (a'.tmps.getD 116 undef), (a'.tmps.getD 117 undef), (a'.tmps.getD 118 undef), (a'.tmps.getD 119 undef), (a'.tmps.getD 120 undef), (a'.tmps.getD 121 undef)], defers := [] } ∧ upAll ls = true ∧ w'.ownsRow w.heap.size 3 1 v (commonL ls).length (numCells (commonL ls)) ∧ Below w.heap.size w w') (fun _ _ => 0) rfl ?first ?pass
  case pass =>
    rintro a' w' ⟨v, ha, hup, ho, hb⟩
    obtain ⟨U, hU⟩ : ∃ U : Nat → Value, U = fun i => a'.tmps.getD i undef := ⟨_, rfl⟩
    have ha2 : a' = { tmps := #[U 0, U 1, U 2, U 3, U 4, U 5, U 6, v, U 8, U 9, U 10, U 11, U 12, U 13, U 14, U 15, U 16, U 17, U 18, U 19, U 20, U 21, U 22, U 23, U 24, U 25, U 26, U 27, U 28, U 29, U 30, U 31, U 32, U 33, U 34, U 35, U 36, U 37, U 38, U 39, U 40, U 41, U 42, U 43, U 44, U 45, U 46, U 47, U 48, U 49, U 50, U 51, U 52, U 53, U 54, U 55, U 56, U 57, U 58, U 59, U 60, U 61, U 62, U 63, U 64, U 65, U 66, U 67, U 68, U 69, U 70, U 71, U 72, U 73, U 74, U 75, U 76, U 77, U 78, U 79, U 80, U 81, U 82, U 83, U 84, U 85, U 86, U 87, U 88, U 89, U 90, U 91, U 92, U 93, U 94, U 95, U 96, U 97, U 98, U 99, U 100, U 101, U 102, U 103, U 104, U 105, U 106, U 107, U 108, U 109, U 110, U 111, U 112, U 113, U 114, U 115, U 116, U 117, U 118, U 119, U 120, U 121], defers := [] } := by rw [hU]; exact ha
    clear hU ha
    subst ha2
    go_wp2
    first
      | go_ret2
      | (simp only [Exit.jump]; go_ret2)
    refine ⟨v, ?_, ?_, hb⟩
    · have hne : ls ≠ [] := by intro e; have := HLM.out; rw [e] at this; simp at this; omega
      rw [meetE, if_neg hne, if_pos hup]
      rfl
    · rw [meetL, if_pos hup]
      exact ho
  case first =>
  go_wp2
  go_loopg [17] (m + 1) (fun gg s17 wr => ∃ j : Nat, j ≤ m ∧ m < gg + j ∧ s17 = .int .i64 j ∧ Below w.heap.size w wr ∧ Aside0 (∀ i, i < j → Up (ls.getD i [])))
  case atStart => exact ⟨0, by omega, by omega, rfl, Below.refl _ _, ⟨fun i hi => absurd hi (by omega)⟩⟩
  case round =>
    obtain ⟨j, hj, hg, rfl, HB, HJ⟩ := hrel
    have hj0 : (0 : Int) ≤ (j : Int) := by omega
    by_cases hlt : j < m
    · have hlti : (j : Int) < (m : Int) := by omega
      have hjr : j < rs.length := by have := HM.out; omega
      obtain ⟨ad0, hA0, -, hc0⟩ := HR.out.row j hjr
      have hrc : wr.cell? (ad0.add j) = some (rs.getD j r30).val := (HB.cell (World.block_lt_of_cell? w _ hc0)).trans hc0
      have hri := HR.out.each _ (getD_mem rs j hjr)
      have hcap := HR.out.cap _ (getD_mem rs j hjr)
      have hnum := HS.out.nums _ (getD_mem rs j hjr)
      have hlj : ls.getD j [] = (rs.getD j r30).l := by rw [HL.out]; exact lsOf_getD rs j hjr
      subst hA0
      generalize rs.getD j r30 = r at hrc hri hcap hnum hlj
      obtain ⟨Ar, l, cr⟩ := r
      simp only [R3.val] at hrc hri hcap hnum hlj
      obtain ⟨n, hn⟩ : ∃ n, n = l.length := ⟨_, rfl⟩
      rw [← hn] at hrc hcap hnum
      have hni : (n : Int) ≤ 17592186044416 := by omega
      have HN := Aside0.mk hn
      have HRI := Aside0.mk hri
      have HLJ := Aside0.mk hlj
      clear hn hri hlj
      obtain ⟨u, hu⟩ : ∃ u, u = n - 1 := ⟨_, rfl⟩
      have hmax : max (0 : Int) ((n : Int) - 1) = (u : Int) := by omega
      have hun : u ≤ n := by omega
      have HU := Aside0.mk hu
      clear hu
      obtain ⟨G, hG⟩ : ∃ G, G = gk := ⟨_, rfl⟩
      have HG := Aside0.mk hG
      clear hG
      go_wp2
      go_loopg [25] (u + 1) (fun gg s25 wx => ∃ i : Nat, i ≤ u ∧ u < gg + i ∧ s25 = .int .i64 i ∧ Below w.heap.size w wx ∧ Aside0 (∀ t, t < i → l.getD t 0 < l.getD (t + 1) 0))
      case atStart => exact ⟨0, by omega, by omega, rfl, HB, ⟨fun t ht => absurd ht (by omega)⟩⟩
      case round =>
        obtain ⟨i, hi, hgi, rfl, HBx, HI⟩ := hrel
        have hi0 : (0 : Int) ≤ (i : Int) := by omega
        by_cases hiu : i < u
        · have hiui : (i : Int) < (u : Int) := by omega
          obtain ⟨i2, hi2⟩ : ∃ i2, i2 = i + 1 := ⟨_, rfl⟩
          have hii2 : (i : Int) + 1 = (i2 : Int) := by omega
          have hin : (i : Int) < (n : Int) := by omega
          have hi20 : (0 : Int) ≤ (i2 : Int) := by omega
          have hwrap : IntKind.i64.wrap (i2 : Int) = (i2 : Int) := by rw [IntKind.wrap_i64]; omega
          have hi2n : (i2 : Int) < (n : Int) := by have := HU.out; omega
          have hln : i2 < l.length := by have := HN.out; have := HU.out; omega
          obtain ⟨ad, hA, hcs⟩ := (HRI.out.below HBx).2 (by omega)
          have hx := hcs i (by omega)
          have hy := hcs i2 hln
          have hxyv : l.getD i2 0 = l.getD (i + 1) 0 := by rw [hi2]
          have HI2 := Aside0.mk hi2
          have HXY := Aside0.mk hxyv
          subst hA
          clear hcs hi2 hxyv hln
          obtain ⟨x, hxe⟩ : ∃ x, x = l.getD i 0 := ⟨_, rfl⟩
          obtain ⟨y, hye⟩ : ∃ y, y = l.getD i2 0 := ⟨_, rfl⟩
          rw [← hxe] at hx
          rw [← hye] at hy
          have HXE := Aside0.mk hxe
          have HYE := Aside0.mk hye
          clear hxe hye
          by_cases hlt2 : x < y
          · have hxy : decide (y ≤ x) = false := by simp; omega
            go_upto_region 9 with (fail)
            refine wp_region_held_drew (S := (fun WW => WW.cell? (ad.add i) = some (.int .i64 x) ∧ WW.cell? (ad.add i2) = some (.int .i64 y))) (by kernel_rfl) ?_ (fun hHeld => ?_)
            · exact ⟨hx, hy⟩
            refine take_in (i := 0) (v := ?v0f) rfl (by kernel_rfl) (by kernel_rfl) (by kernel_rfl) (fun _ _ _ h => h) (by rfl) ?hy0f (by assumption) ?_
            case hy0f => intro WW hSw; (try dsimp only at hSw); go_simp; try with_reducible rfl
            try simp only [Act.put, List.setIfInBounds_toArray, List.set_cons_zero, List.set_cons_succ]
            refine take_in (i := 1) (v := ?v1f) rfl (by kernel_rfl) (by kernel_rfl) (by kernel_rfl) (fun _ _ _ h => h) (by rfl) ?hy1f (by assumption) ?_
            case hy1f => intro WW hSw; (try dsimp only at hSw); go_simp; try with_reducible rfl
            try simp only [Act.put, List.setIfInBounds_toArray, List.set_cons_zero, List.set_cons_succ]
            refine take_in (i := 2) (v := ?v2f) rfl (by kernel_rfl) (by kernel_rfl) (by kernel_rfl) (fun _ _ _ h => h) (by rfl) ?hy2f (by assumption) ?_
            case hy2f => intro WW hSw; (try dsimp only at hSw); go_simp; try with_reducible rfl
            try simp only [Act.put, List.setIfInBounds_toArray, List.set_cons_zero, List.set_cons_succ]
            refine take_in (i := 3) (v := ?v3f) rfl (by kernel_rfl) (by kernel_rfl) (by kernel_rfl) (fun _ _ _ h => h) (by rfl) ?hy3f (by assumption) ?_
            case hy3f => intro WW hSw; (try dsimp only at hSw); go_simp; try with_reducible rfl
            try simp only [Act.put, List.setIfInBounds_toArray, List.set_cons_zero, List.set_cons_succ]
            refine take_in (i := 4) (v := ?v4f) rfl (by kernel_rfl) (by kernel_rfl) (by kernel_rfl) (fun _ _ _ h => h) (by rfl) ?hy4f (by assumption) ?_
            case hy4f => intro WW hSw; (try dsimp only at hSw); go_simp; try with_reducible rfl
            try simp only [Act.put, List.setIfInBounds_toArray, List.set_cons_zero, List.set_cons_succ]
            refine take_in (i := 5) (v := ?v5f) rfl (by kernel_rfl) (by kernel_rfl) (by kernel_rfl) (fun _ _ _ h => h) (by rfl) ?hy5f (by assumption) ?_
            case hy5f => intro WW hSw; (try dsimp only at hSw); go_simp; try with_reducible rfl
            try simp only [Act.put, List.setIfInBounds_toArray, List.set_cons_zero, List.set_cons_succ]
            refine take_in (i := 6) (v := .int .i64 (i2 : Int)) rfl (by kernel_rfl) (by kernel_rfl) (by kernel_rfl) (fun _ _ _ h => h) (by rfl) ?hy6f (by assumption) ?_
            case hy6f => intro WW hSw; have hh := hwrap; go_simp; try with_reducible rfl
            try simp only [Act.put, List.setIfInBounds_toArray, List.set_cons_zero, List.set_cons_succ]
            refine take_in (i := 7) (v := .pointer (some (ad.add i2))) rfl (by kernel_rfl) (by kernel_rfl) (by kernel_rfl) (fun _ _ _ h => h) (by rfl) ?hy7f (by assumption) ?_
            case hy7f => intro WW hSw; (try dsimp only at hSw); go_simp; try with_reducible rfl
            try simp only [Act.put, List.setIfInBounds_toArray, List.set_cons_zero, List.set_cons_succ]
            refine take_in (i := 8) (v := ?v8f) rfl (by kernel_rfl) (by kernel_rfl) (by kernel_rfl) (fun _ _ _ h => h) (by rfl) ?hy8f (by assumption) ?_
            case hy8f => intro WW hSw; (try dsimp only at hSw); go_simp; try with_reducible rfl
            try simp only [Act.put, List.setIfInBounds_toArray, List.set_cons_zero, List.set_cons_succ]
            refine take_in (i := 9) (v := .bool false) rfl (by kernel_rfl) (by kernel_rfl) (by kernel_rfl) (fun _ _ _ h => h) (by rfl) ?hy9f (by assumption) ?_
            case hy9f => intro WW hSw; (try dsimp only at hSw); have hh := hxy; go_simp; try with_reducible rfl
            try simp only [Act.put, List.setIfInBounds_toArray, List.set_cons_zero, List.set_cons_succ]
            refine wpAnyH_done (by kernel_rfl) ?_ _
            go_wp2
            go_roundg (gk - 1)
            case measure => omega
            case rel => exact ⟨i2, by have := HI2.out; omega, by have := HI2.out; omega, by go_num, ⟨HBx.os, HBx.tape, HBx.output, HBx.size, HBx.block⟩, ⟨fun t ht => by
              have h2 := HI2.out
              rcases Nat.lt_or_ge t i with h | h
              · exact HI.out t h
              · obtain rfl : t = i := by omega
                rw [← HXE.out, ← HXY.out, ← HYE.out]; exact hlt2⟩⟩
          · have hxy : decide (y ≤ x) = true := by simp; omega
            go_upto_region 9 with (fail)
            refine wp_region_held_drew (S := (fun WW => WW.cell? (ad.add i) = some (.int .i64 x) ∧ WW.cell? (ad.add i2) = some (.int .i64 y))) (by kernel_rfl) ?_ (fun hHeld => ?_)
            · exact ⟨hx, hy⟩
            refine take_in (i := 0) (v := ?v0t) rfl (by kernel_rfl) (by kernel_rfl) (by kernel_rfl) (fun _ _ _ h => h) (by rfl) ?hy0t (by assumption) ?_
            case hy0t => intro WW hSw; (try dsimp only at hSw); go_simp; try with_reducible rfl
            try simp only [Act.put, List.setIfInBounds_toArray, List.set_cons_zero, List.set_cons_succ]
            refine take_in (i := 1) (v := ?v1t) rfl (by kernel_rfl) (by kernel_rfl) (by kernel_rfl) (fun _ _ _ h => h) (by rfl) ?hy1t (by assumption) ?_
            case hy1t => intro WW hSw; (try dsimp only at hSw); go_simp; try with_reducible rfl
            try simp only [Act.put, List.setIfInBounds_toArray, List.set_cons_zero, List.set_cons_succ]
            refine take_in (i := 2) (v := ?v2t) rfl (by kernel_rfl) (by kernel_rfl) (by kernel_rfl) (fun _ _ _ h => h) (by rfl) ?hy2t (by assumption) ?_
            case hy2t => intro WW hSw; (try dsimp only at hSw); go_simp; try with_reducible rfl
            try simp only [Act.put, List.setIfInBounds_toArray, List.set_cons_zero, List.set_cons_succ]
            refine take_in (i := 3) (v := ?v3t) rfl (by kernel_rfl) (by kernel_rfl) (by kernel_rfl) (fun _ _ _ h => h) (by rfl) ?hy3t (by assumption) ?_
            case hy3t => intro WW hSw; (try dsimp only at hSw); go_simp; try with_reducible rfl
            try simp only [Act.put, List.setIfInBounds_toArray, List.set_cons_zero, List.set_cons_succ]
            refine take_in (i := 4) (v := ?v4t) rfl (by kernel_rfl) (by kernel_rfl) (by kernel_rfl) (fun _ _ _ h => h) (by rfl) ?hy4t (by assumption) ?_
            case hy4t => intro WW hSw; (try dsimp only at hSw); go_simp; try with_reducible rfl
            try simp only [Act.put, List.setIfInBounds_toArray, List.set_cons_zero, List.set_cons_succ]
            refine take_in (i := 5) (v := ?v5t) rfl (by kernel_rfl) (by kernel_rfl) (by kernel_rfl) (fun _ _ _ h => h) (by rfl) ?hy5t (by assumption) ?_
            case hy5t => intro WW hSw; (try dsimp only at hSw); go_simp; try with_reducible rfl
            try simp only [Act.put, List.setIfInBounds_toArray, List.set_cons_zero, List.set_cons_succ]
            refine take_in (i := 6) (v := .int .i64 (i2 : Int)) rfl (by kernel_rfl) (by kernel_rfl) (by kernel_rfl) (fun _ _ _ h => h) (by rfl) ?hy6t (by assumption) ?_
            case hy6t => intro WW hSw; have hh := hwrap; go_simp; try with_reducible rfl
            try simp only [Act.put, List.setIfInBounds_toArray, List.set_cons_zero, List.set_cons_succ]
            refine take_in (i := 7) (v := .pointer (some (ad.add i2))) rfl (by kernel_rfl) (by kernel_rfl) (by kernel_rfl) (fun _ _ _ h => h) (by rfl) ?hy7t (by assumption) ?_
            case hy7t => intro WW hSw; (try dsimp only at hSw); go_simp; try with_reducible rfl
            try simp only [Act.put, List.setIfInBounds_toArray, List.set_cons_zero, List.set_cons_succ]
            refine take_in (i := 8) (v := ?v8t) rfl (by kernel_rfl) (by kernel_rfl) (by kernel_rfl) (fun _ _ _ h => h) (by rfl) ?hy8t (by assumption) ?_
            case hy8t => intro WW hSw; (try dsimp only at hSw); go_simp; try with_reducible rfl
            try simp only [Act.put, List.setIfInBounds_toArray, List.set_cons_zero, List.set_cons_succ]
            refine take_in (i := 9) (v := .bool true) rfl (by kernel_rfl) (by kernel_rfl) (by kernel_rfl) (fun _ _ _ h => h) (by rfl) ?hy9t (by assumption) ?_
            case hy9t => intro WW hSw; (try dsimp only at hSw); have hh := hxy; go_simp; try with_reducible rfl
            try simp only [Act.put, List.setIfInBounds_toArray, List.set_cons_zero, List.set_cons_succ]
            refine wpAnyH_done (by kernel_rfl) ?_ _
            go_wp2
            first
              | go_ret2
              | (simp only [Exit.jump]; go_ret2)
              | (simp only [Exit.inBlock, Exit.then, Exit.jump]; go_ret2)
            have hnu : upAll ls = false := by
              rw [Bool.eq_false_iff]
              intro h
              have hu := (upAll_iff ls).1 h l (by
                rw [← HLJ.out, List.getD_eq_getElem?_getD, List.getElem?_eq_getElem (by rw [HLM.out]; exact hlt)]
                exact List.getElem_mem _)
              have h3 := (up_iff l).1 hu i (by have := HN.out; have := HU.out; omega)
              rw [← HXE.out, ← HXY.out, ← HYE.out] at h3
              omega
            have hne : ls ≠ [] := by intro e; have := HLM.out; rw [e] at this; simp at this; omega
            refine ⟨.slice none 0 0, ?_, ?_, ⟨HBx.os, HBx.tape, HBx.output, HBx.size, HBx.block⟩⟩
            · rw [meetE, if_neg hne, hnu]
              rfl
            · rw [meetL, hnu]
              exact World.ownsRow_nil _ _ _ _
        · obtain rfl : i = u := by omega
          have hiu' : ¬ (i : Int) < (i : Int) := by omega
          have hul : Up l := (up_iff l).2 fun t ht => HI.out t (by have := HN.out; have := HU.out; omega)
          have HUL := Aside0.mk hul
          clear hul HI
          go_wp2
          go_roundg (G - 1)
          case measure => have := HG.out; omega
          case rel => exact ⟨j + 1, by omega, by have := HG.out; omega, by go_num, HBx, ⟨fun t ht => by
            rcases Nat.lt_or_ge t j with h | h
            · exact HJ.out t h
            · obtain rfl : t = j := by omega
              rw [HLJ.out]; exact HUL.out⟩⟩
    · obtain rfl : j = m := by omega
      have hjj : ¬ (j : Int) < (j : Int) := by omega
      have hup : ∀ l ∈ ls, Up l := fun l hl => by
        obtain ⟨i, hi, rfl⟩ := List.getElem_of_mem hl
        have h := HJ.out i (by have := HLM.out; omega)
        rw [List.getD_eq_getElem?_getD, List.getElem?_eq_getElem hi] at h
        exact h
      have HUP := Aside0.mk ((upAll_iff ls).2 hup)
      have hne : ls ≠ [] := by intro e; have := HLM.out; rw [e] at this; simp at this; omega
      have hnum0 : (ls.getD 0 []).length ≤ 17592186044416 := by
        have h0 : 0 < rs.length := by have := HM.out; omega
        rw [HL.out, lsOf_getD rs 0 h0]
        exact HS.out.nums _ (getD_mem rs 0 h0)
      have HNUM0 := Aside0.mk hnum0
      obtain ⟨i0, hi, hz0, hz1, hz2⟩ := info_parts info_int
      have hmk : ∀ u : World, (Instr.makeSlice 24 (.int .i64 (j : Int)) (.int .i64 (j : Int))).run Try.prog u = .ok (.slice (some ⟨u.heap.size, 0, none⟩) j j) (u.alloc (.cells (natCells (List.replicate j 0)).toArray 3)) := fun u => by
        have h := run_make (P := Try.prog) u 24 3 i0 (.int .i64 0) Try.underlying24 hi hz0 .i64 .i64 (j : Int) (j : Int) (by omega) (Int.le_refl _) (by rw [hz2]; omega) (by omega)
        rw [h, hz1]
        have e : madeCells (Value.int .i64 0).cells ((j : Int).toNat * 1) = (natCells (List.replicate j 0)).toArray := by
          apply Array.toList_inj.1
          rw [show (Value.int .i64 0).cells = #[Value.int .i64 0] from rfl, toList_madeCells_one]
          simp [natCells]
        rw [e]
        simp
      have HNE := Aside0.mk hne
      have HUPL := Aside0.mk hup
      clear hi hz0 hz1 hz2 hup hne hnum0
      obtain ⟨g, hg2⟩ : ∃ g, g = wr.heap.size := ⟨_, rfl⟩
      have hgw : w.heap.size ≤ g + 1 := by have := HB.size; omega
      have hgw0 : w.heap.size ≤ g := by have := HB.size; omega
      have HG2 := Aside0.mk hg2
      have hmk2 := hmk wr
      rw [← hg2] at hmk2
      clear hmk hg2
      go_wp2
      obtain ⟨W3, hW3⟩ : ∃ W3, W3 = wr.alloc (.cells (natCells (List.replicate j 0)).toArray 3) := ⟨_, rfl⟩
      rw [← hW3]
      have hR3 : RowA W3 g (List.replicate j 0) := by rw [hW3, HG2.out]; exact heap_alloc_new wr _
      have HB3 : Below w.heap.size w W3 := by rw [hW3]; exact below_more HB _
      clear hmk2 hW3
      go_loopg [7, 9, 10, 11] (mu ls (List.replicate j 0) 0 0 [] + 1) (fun gg v7 v9 v10 v11 wx => ∃ (k : Nat) (ats : List Nat) (same : Nat) (n : Int) (out : List Int), v9 = .int .i64 same ∧ v10 = .int .i64 n ∧ v11 = .int .i64 k ∧ RowA wx g ats ∧ wx.ownsRow (g + 1) 3 1 v7 out.length (numCells out) ∧ Below w.heap.size w wx ∧ Aside0 (MeetI ls k ats same n out ∧ mu ls ats same n out < gg))
      case atStart => exact ⟨0, List.replicate j 0, 0, 0, [], rfl, rfl, rfl, hR3, World.ownsRow_nil _ _ _ _, HB3, ⟨by have h := meet_start ls HNE.out; rw [HLM.out] at h; exact h, Nat.lt_succ_self _⟩⟩
      case round =>
        obtain ⟨k, ats, same, n, out, rfl, rfl, rfl, hR, ho, HBy, HI⟩ := hrel
        have HB := HBy
        obtain ⟨m, hmj⟩ : ∃ m, m = j := ⟨_, rfl⟩
        subst hmj
        have hup := HUPL.out
        have hne := HNE.out
        have hkm : k < m := by have := HI.out.1.kl; have := HLM.out; omega
        have hkmi : (k : Int) < (m : Int) := by omega
        have hk0 : (0 : Int) ≤ (k : Int) := by omega
        have hkr : k < rs.length := by have := HM.out; omega
        have hsm : same < m := by have := HI.out.1.sl; have := HLM.out; omega
        have hsmi : (same : Int) < (m : Int) := by omega
        have hatl : ats.length = m := by have := HI.out.1.len; have := HLM.out; omega
        obtain ⟨ad0, hA0, -, hc0⟩ := HR.out.row k hkr
        have hL : wr.cell? (ad0.add k) = some (rs.getD k r30).val := (HB.cell (World.block_lt_of_cell? w _ hc0)).trans hc0
        have hri := HR.out.each _ (getD_mem rs k hkr)
        have hcap := HR.out.cap _ (getD_mem rs k hkr)
        have hnum := HS.out.nums _ (getD_mem rs k hkr)
        have hlj : ls.getD k [] = (rs.getD k r30).l := by rw [HL.out]; exact lsOf_getD rs k hkr
        have hab : (ad0.add k).block < w.heap.size := World.block_lt_of_cell? w _ hc0
        subst hA0
        clear hc0
        generalize rs.getD k r30 = r at hL hri hcap hnum hlj
        obtain ⟨Ak, l, ck⟩ := r
        simp only [R3.val] at hL hri hcap hnum hlj
        have hni : (l.length : Int) ≤ 17592186044416 := by omega
        have HRI := Aside0.mk hri
        have HLJ := Aside0.mk hlj
        have hat := HI.out.1.at_ k HI.out.1.kl
        have hul : Up l := by rw [← hlj]; exact hup _ (by rw [List.getD_eq_getElem?_getD, List.getElem?_eq_getElem HI.out.1.kl]; exact List.getElem_mem _)
        obtain ⟨atk, hatk⟩ : ∃ atk, atk = ats.getD k 0 := ⟨_, rfl⟩
        rw [← hatk, hlj] at hat
        have hA := hR.cell k (by omega)
        rw [← hatk] at hA
        have hfr := hR.free k
        obtain ⟨p, hp⟩ : ∃ p, placeL ls k ats same n = p := ⟨_, rfl⟩
        have HP := Aside0.mk hp
        have hmin : min (atk : Int) (l.length : Int) = (atk : Int) := by omega
        obtain ⟨kn, hkn⟩ : ∃ kn, kn = if k + 1 = ls.length then 0 else k + 1 := ⟨_, rfl⟩
        have hmod : ((k : Int) + 1) % (m : Int) = (kn : Int) := by
          rw [hkn, HLM.out]
          split
          · rename_i h
            rw [show ((k : Int) + 1) = (m : Int) by omega, Int.emod_self]
            rfl
          · rw [Int.emod_eq_of_lt (by omega) (by omega)]
            omega
        have HKN := Aside0.mk hkn
        obtain ⟨p1, hp1e⟩ : ∃ p1, p1 = p + 1 := ⟨_, rfl⟩
        have HP1 := Aside0.mk hp1e
        have hkset : k < (ats.set k p).length := by rw [List.length_set]; omega
        have hgs : (ats.set k p).getD k 0 = p := by rw [getD_set ats k p k (by omega), if_pos rfl]
        have HATK := Aside0.mk hatk
        clear hri hlj hkn hp1e hatk
        by_cases hs0 : same = 0
        · have hpa : p = atk := by rw [← hp, placeL, if_neg (by omega), HATK.out]
          have hset : ats.set k p = ats := by
            rw [hpa, HATK.out, List.getD_eq_getElem?_getD, List.getElem?_eq_getElem (by omega)]
            exact List.set_getElem_self _
          rw [← hset] at hR
          rw [← hpa] at hA
          have hs0i : ¬ (0 : Int) < (same : Int) := by omega
          have hs00 : ((same : Int) == 0) = true := by rw [beq_iff_eq]; omega
          clear hp hset hpa hmin
          have HS0 := Aside0.mk hs0
          clear hs0
          by_cases hpl : (ls.getD k []).length ≤ p
          · have hpe : ((p : Int) ≥ (l.length : Int)) := by rw [← HLJ.out]; omega
            have hpeb : decide ((l.length : Int) ≤ (p : Int)) = true := by simp; omega
            have hcm := meet_end HI.out.1 (by rw [HP.out]; exact hpl)
            go_upto_region 21 with (fail)
            refine wp_region_held_drew (S := (fun WW => WW.cell? (ad0.add k) = some (.slice Ak l.length ck) ∧ WW.cell? ⟨g, k, none⟩ = some (.int .i64 (p : Int)))) (by kernel_rfl) ?_ (fun hHeld => ?_)
            · exact ⟨hL, hA⟩
            refine take_in (i := 0) (v := ?v0Ae) rfl (by kernel_rfl) (by kernel_rfl) (by kernel_rfl) (fun _ _ _ h => h) (by rfl) ?hy0Ae (by assumption) ?_
            case hy0Ae => intro WW hSw; (try dsimp only at hSw); go_simp; try with_reducible rfl
            try simp only [Act.put, List.setIfInBounds_toArray, List.set_cons_zero, List.set_cons_succ]
            refine take_in (i := 1) (v := ?v1Ae) rfl (by kernel_rfl) (by kernel_rfl) (by kernel_rfl) (fun _ _ _ h => h) (by rfl) ?hy1Ae (by assumption) ?_
            case hy1Ae => intro WW hSw; (try dsimp only at hSw); go_simp; try with_reducible rfl
            try simp only [Act.put, List.setIfInBounds_toArray, List.set_cons_zero, List.set_cons_succ]
            refine take_in (i := 2) (v := ?v2Ae) rfl (by kernel_rfl) (by kernel_rfl) (by kernel_rfl) (fun _ _ _ h => h) (by rfl) ?hy2Ae (by assumption) ?_
            case hy2Ae => intro WW hSw; (try dsimp only at hSw); go_simp; try with_reducible rfl
            try simp only [Act.put, List.setIfInBounds_toArray, List.set_cons_zero, List.set_cons_succ]
            refine take_in (i := 3) (v := ?v3Ae) rfl (by kernel_rfl) (by kernel_rfl) (by kernel_rfl) (fun _ _ _ h => h) (by rfl) ?hy3Ae (by assumption) ?_
            case hy3Ae => intro WW hSw; (try dsimp only at hSw); go_simp; try with_reducible rfl
            try simp only [Act.put, List.setIfInBounds_toArray, List.set_cons_zero, List.set_cons_succ]
            refine take_in (i := 4) (v := ?v4Ae) rfl (by kernel_rfl) (by kernel_rfl) (by kernel_rfl) (fun _ _ _ h => h) (by rfl) ?hy4Ae (by assumption) ?_
            case hy4Ae => intro WW hSw; (try dsimp only at hSw); go_simp; try with_reducible rfl
            try simp only [Act.put, List.setIfInBounds_toArray, List.set_cons_zero, List.set_cons_succ]
            refine take_in (i := 5) (v := ?v5Ae) rfl (by kernel_rfl) (by kernel_rfl) (by kernel_rfl) (fun _ _ _ h => h) (by rfl) ?hy5Ae (by assumption) ?_
            case hy5Ae => intro WW hSw; (try dsimp only at hSw); go_simp; try with_reducible rfl
            try simp only [Act.put, List.setIfInBounds_toArray, List.set_cons_zero, List.set_cons_succ]
            refine take_in (i := 6) (v := ?v6Ae) rfl (by kernel_rfl) (by kernel_rfl) (by kernel_rfl) (fun _ _ _ h => h) (by rfl) ?hy6Ae (by assumption) ?_
            case hy6Ae => intro WW hSw; (try dsimp only at hSw); go_simp; try with_reducible rfl
            try simp only [Act.put, List.setIfInBounds_toArray, List.set_cons_zero, List.set_cons_succ]
            refine take_in (i := 7) (v := ?v7Ae) rfl (by kernel_rfl) (by kernel_rfl) (by kernel_rfl) (fun _ _ _ h => h) (by rfl) ?hy7Ae (by assumption) ?_
            case hy7Ae => intro WW hSw; (try dsimp only at hSw); go_simp; try with_reducible rfl
            try simp only [Act.put, List.setIfInBounds_toArray, List.set_cons_zero, List.set_cons_succ]
            refine take_in (i := 8) (v := ?v8Ae) rfl (by kernel_rfl) (by kernel_rfl) (by kernel_rfl) (fun _ _ _ h => h) (by rfl) ?hy8Ae (by assumption) ?_
            case hy8Ae => intro WW hSw; (try dsimp only at hSw); go_simp; try with_reducible rfl
            try simp only [Act.put, List.setIfInBounds_toArray, List.set_cons_zero, List.set_cons_succ]
            refine take_in (i := 9) (v := .bool true) rfl (by kernel_rfl) (by kernel_rfl) (by kernel_rfl) (fun _ _ _ h => h) (by rfl) ?hy9Ae (by assumption) ?_
            case hy9Ae => intro WW hSw; (try dsimp only at hSw); have hh := hpe; go_simp; try with_reducible rfl
            try simp only [Act.put, List.setIfInBounds_toArray, List.set_cons_zero, List.set_cons_succ]
            refine wpAnyH_done (by kernel_rfl) ?_ _
            go_wp2
            go_step3
            apply And.intro rfl
            refine ⟨_, rfl, HUP.out, ?_, ⟨HB.os, HB.tape, HB.output, HB.size, HB.block⟩⟩
            rw [hcm]
            exact own_base ho hgw
          · have hpe : ¬ ((p : Int) ≥ (l.length : Int)) := by rw [← HLJ.out]; omega
            have hpi : (p : Int) < (l.length : Int) := by omega
            have hpl2 : p < l.length := by omega
            obtain ⟨adk, hAk, hcs⟩ := (HRI.out.below HB).2 (by omega)
            have hN := hcs p hpl2
            have hv : l[p]? = some (l.getD p 0) := by rw [List.getD_eq_getElem?_getD, List.getElem?_eq_getElem hpl2]; rfl
            subst hAk
            clear hcs
            generalize l.getD p 0 = v at hN hv
            have HV : Aside0 ((ls.getD k [])[placeL ls k ats same n]? = some v) := ⟨by rw [HP.out, HLJ.out]; exact hv⟩
            have hp0 : (0 : Int) ≤ (p : Int) := by omega
            have hpbig : (p : Int) ≤ 17592186044416 := by omega
            clear hv
            go_upto_region 21 with (fail)
            refine wp_region_held_drew (S := (fun WW => WW.cell? (ad0.add k) = some (.slice (some adk) l.length ck) ∧ WW.cell? ⟨g, k, none⟩ = some (.int .i64 (p : Int)))) (by kernel_rfl) ?_ (fun hHeld => ?_)
            · exact ⟨hL, hA⟩
            refine take_in (i := 0) (v := ?v0An) rfl (by kernel_rfl) (by kernel_rfl) (by kernel_rfl) (fun _ _ _ h => h) (by rfl) ?hy0An (by assumption) ?_
            case hy0An => intro WW hSw; (try dsimp only at hSw); go_simp; try with_reducible rfl
            try simp only [Act.put, List.setIfInBounds_toArray, List.set_cons_zero, List.set_cons_succ]
            refine take_in (i := 1) (v := ?v1An) rfl (by kernel_rfl) (by kernel_rfl) (by kernel_rfl) (fun _ _ _ h => h) (by rfl) ?hy1An (by assumption) ?_
            case hy1An => intro WW hSw; (try dsimp only at hSw); go_simp; try with_reducible rfl
            try simp only [Act.put, List.setIfInBounds_toArray, List.set_cons_zero, List.set_cons_succ]
            refine take_in (i := 2) (v := ?v2An) rfl (by kernel_rfl) (by kernel_rfl) (by kernel_rfl) (fun _ _ _ h => h) (by rfl) ?hy2An (by assumption) ?_
            case hy2An => intro WW hSw; (try dsimp only at hSw); go_simp; try with_reducible rfl
            try simp only [Act.put, List.setIfInBounds_toArray, List.set_cons_zero, List.set_cons_succ]
            refine take_in (i := 3) (v := ?v3An) rfl (by kernel_rfl) (by kernel_rfl) (by kernel_rfl) (fun _ _ _ h => h) (by rfl) ?hy3An (by assumption) ?_
            case hy3An => intro WW hSw; (try dsimp only at hSw); go_simp; try with_reducible rfl
            try simp only [Act.put, List.setIfInBounds_toArray, List.set_cons_zero, List.set_cons_succ]
            refine take_in (i := 4) (v := ?v4An) rfl (by kernel_rfl) (by kernel_rfl) (by kernel_rfl) (fun _ _ _ h => h) (by rfl) ?hy4An (by assumption) ?_
            case hy4An => intro WW hSw; (try dsimp only at hSw); go_simp; try with_reducible rfl
            try simp only [Act.put, List.setIfInBounds_toArray, List.set_cons_zero, List.set_cons_succ]
            refine take_in (i := 5) (v := ?v5An) rfl (by kernel_rfl) (by kernel_rfl) (by kernel_rfl) (fun _ _ _ h => h) (by rfl) ?hy5An (by assumption) ?_
            case hy5An => intro WW hSw; (try dsimp only at hSw); go_simp; try with_reducible rfl
            try simp only [Act.put, List.setIfInBounds_toArray, List.set_cons_zero, List.set_cons_succ]
            refine take_in (i := 6) (v := ?v6An) rfl (by kernel_rfl) (by kernel_rfl) (by kernel_rfl) (fun _ _ _ h => h) (by rfl) ?hy6An (by assumption) ?_
            case hy6An => intro WW hSw; (try dsimp only at hSw); go_simp; try with_reducible rfl
            try simp only [Act.put, List.setIfInBounds_toArray, List.set_cons_zero, List.set_cons_succ]
            refine take_in (i := 7) (v := ?v7An) rfl (by kernel_rfl) (by kernel_rfl) (by kernel_rfl) (fun _ _ _ h => h) (by rfl) ?hy7An (by assumption) ?_
            case hy7An => intro WW hSw; (try dsimp only at hSw); go_simp; try with_reducible rfl
            try simp only [Act.put, List.setIfInBounds_toArray, List.set_cons_zero, List.set_cons_succ]
            refine take_in (i := 8) (v := ?v8An) rfl (by kernel_rfl) (by kernel_rfl) (by kernel_rfl) (fun _ _ _ h => h) (by rfl) ?hy8An (by assumption) ?_
            case hy8An => intro WW hSw; (try dsimp only at hSw); go_simp; try with_reducible rfl
            try simp only [Act.put, List.setIfInBounds_toArray, List.set_cons_zero, List.set_cons_succ]
            refine take_in (i := 9) (v := .bool false) rfl (by kernel_rfl) (by kernel_rfl) (by kernel_rfl) (fun _ _ _ h => h) (by rfl) ?hy9An (by assumption) ?_
            case hy9An => intro WW hSw; (try dsimp only at hSw); have hh := hpe; go_simp; try with_reducible rfl
            try simp only [Act.put, List.setIfInBounds_toArray, List.set_cons_zero, List.set_cons_succ]
            refine wpAnyH_done (by kernel_rfl) ?_ _
            by_cases ht : 1 = m
            · have HT := Aside0.mk ht
              clear ht
              go_upto_region 22 with (fail)
              refine wp_region_held_drew (S := (fun WW => WW.cell? (ad0.add k) = some (.slice (some adk) l.length ck) ∧ WW.cell? ⟨g, k, none⟩ = some (.int .i64 (p : Int)) ∧ WW.cell? (adk.add p) = some (.int .i64 v))) (by kernel_rfl) ?_ (fun hHeld => ?_)
              · exact ⟨hL, hA, hN⟩
              refine take_in (i := 0) (v := ?v0A1x) rfl (by kernel_rfl) (by kernel_rfl) (by kernel_rfl) (fun _ _ _ h => h) (by rfl) ?hy0A1x (by assumption) ?_
              case hy0A1x => intro WW hSw; (try dsimp only at hSw); go_simp; try with_reducible rfl
              try simp only [Act.put, List.setIfInBounds_toArray, List.set_cons_zero, List.set_cons_succ]
              refine take_in (i := 1) (v := .bool true) rfl (by kernel_rfl) (by kernel_rfl) (by kernel_rfl) (fun _ _ _ h => h) (by rfl) ?hy1A1x (by assumption) ?_
              case hy1A1x => intro WW hSw; (try dsimp only at hSw); go_simp; try with_reducible rfl
              try simp only [Act.put, List.setIfInBounds_toArray, List.set_cons_zero, List.set_cons_succ]
              refine take_in (i := 2) (v := .bool true) rfl (by kernel_rfl) (by kernel_rfl) (by kernel_rfl) (fun _ _ _ h => h) (by rfl) ?hy2A1x (by assumption) ?_
              case hy2A1x => intro WW hSw; (try dsimp only at hSw); go_simp; try with_reducible rfl
              try simp only [Act.put, List.setIfInBounds_toArray, List.set_cons_zero, List.set_cons_succ]
              refine take_out (i := 3) rfl (by kernel_rfl) (by kernel_rfl) (by kernel_rfl) (fun _ _ _ h => h) (by rfl) (by assumption) ?_
              try simp only [Act.put, List.setIfInBounds_toArray, List.set_cons_zero, List.set_cons_succ]
              refine take_out (i := 4) rfl (by kernel_rfl) (by kernel_rfl) (by kernel_rfl) (fun _ _ _ h => h) (by rfl) (by assumption) ?_
              try simp only [Act.put, List.setIfInBounds_toArray, List.set_cons_zero, List.set_cons_succ]
              refine take_out (i := 5) rfl (by kernel_rfl) (by kernel_rfl) (by kernel_rfl) (fun _ _ _ h => h) (by rfl) (by assumption) ?_
              try simp only [Act.put, List.setIfInBounds_toArray, List.set_cons_zero, List.set_cons_succ]
              refine take_out (i := 6) rfl (by kernel_rfl) (by kernel_rfl) (by kernel_rfl) (fun _ _ _ h => h) (by rfl) (by assumption) ?_
              try simp only [Act.put, List.setIfInBounds_toArray, List.set_cons_zero, List.set_cons_succ]
              refine take_out (i := 7) rfl (by kernel_rfl) (by kernel_rfl) (by kernel_rfl) (fun _ _ _ h => h) (by rfl) (by assumption) ?_
              try simp only [Act.put, List.setIfInBounds_toArray, List.set_cons_zero, List.set_cons_succ]
              refine take_out (i := 8) rfl (by kernel_rfl) (by kernel_rfl) (by kernel_rfl) (fun _ _ _ h => h) (by rfl) (by assumption) ?_
              try simp only [Act.put, List.setIfInBounds_toArray, List.set_cons_zero, List.set_cons_succ]
              refine take_out (i := 9) rfl (by kernel_rfl) (by kernel_rfl) (by kernel_rfl) (fun _ _ _ h => h) (by rfl) (by assumption) ?_
              try simp only [Act.put, List.setIfInBounds_toArray, List.set_cons_zero, List.set_cons_succ]
              refine take_out (i := 10) rfl (by kernel_rfl) (by kernel_rfl) (by kernel_rfl) (fun _ _ _ h => h) (by rfl) (by assumption) ?_
              try simp only [Act.put, List.setIfInBounds_toArray, List.set_cons_zero, List.set_cons_succ]
              refine take_out (i := 11) rfl (by kernel_rfl) (by kernel_rfl) (by kernel_rfl) (fun _ _ _ h => h) (by rfl) (by assumption) ?_
              try simp only [Act.put, List.setIfInBounds_toArray, List.set_cons_zero, List.set_cons_succ]
              refine take_out (i := 12) rfl (by kernel_rfl) (by kernel_rfl) (by kernel_rfl) (fun _ _ _ h => h) (by rfl) (by assumption) ?_
              try simp only [Act.put, List.setIfInBounds_toArray, List.set_cons_zero, List.set_cons_succ]
              refine take_out (i := 13) rfl (by kernel_rfl) (by kernel_rfl) (by kernel_rfl) (fun _ _ _ h => h) (by rfl) (by assumption) ?_
              try simp only [Act.put, List.setIfInBounds_toArray, List.set_cons_zero, List.set_cons_succ]
              refine take_out (i := 14) rfl (by kernel_rfl) (by kernel_rfl) (by kernel_rfl) (fun _ _ _ h => h) (by rfl) (by assumption) ?_
              try simp only [Act.put, List.setIfInBounds_toArray, List.set_cons_zero, List.set_cons_succ]
              refine take_in (i := 15) (v := .bool true) rfl (by kernel_rfl) (by kernel_rfl) (by kernel_rfl) (fun _ _ _ h => h) (by rfl) ?hy15A1x (by assumption) ?_
              case hy15A1x => intro WW hSw; (try dsimp only at hSw); go_simp; try with_reducible rfl
              try simp only [Act.put, List.setIfInBounds_toArray, List.set_cons_zero, List.set_cons_succ]
              refine wpAnyH_done (by kernel_rfl) ?_ _
              go_upto_region 23 with (fail)
              refine wp_region_held_drew (S := (fun WW => WW.cell? (ad0.add k) = some (.slice (some adk) l.length ck) ∧ WW.cell? ⟨g, k, none⟩ = some (.int .i64 (p : Int)) ∧ WW.cell? (adk.add p) = some (.int .i64 v))) (by kernel_rfl) ?_ (fun hHeld => ?_)
              · exact ⟨hL, hA, hN⟩
              refine take_in (i := 0) (v := ?v0A1y) rfl (by kernel_rfl) (by kernel_rfl) (by kernel_rfl) (fun _ _ _ h => h) (by rfl) ?hy0A1y (by assumption) ?_
              case hy0A1y => intro WW hSw; (try dsimp only at hSw); go_simp; try with_reducible rfl
              try simp only [Act.put, List.setIfInBounds_toArray, List.set_cons_zero, List.set_cons_succ]
              refine take_in (i := 1) (v := ?v1A1y) rfl (by kernel_rfl) (by kernel_rfl) (by kernel_rfl) (fun _ _ _ h => h) (by rfl) ?hy1A1y (by assumption) ?_
              case hy1A1y => intro WW hSw; (try dsimp only at hSw); go_simp; try with_reducible rfl
              try simp only [Act.put, List.setIfInBounds_toArray, List.set_cons_zero, List.set_cons_succ]
              refine take_in (i := 2) (v := ?v2A1y) rfl (by kernel_rfl) (by kernel_rfl) (by kernel_rfl) (fun _ _ _ h => h) (by rfl) ?hy2A1y (by assumption) ?_
              case hy2A1y => intro WW hSw; (try dsimp only at hSw); go_simp; try with_reducible rfl
              try simp only [Act.put, List.setIfInBounds_toArray, List.set_cons_zero, List.set_cons_succ]
              refine take_in (i := 3) (v := ?v3A1y) rfl (by kernel_rfl) (by kernel_rfl) (by kernel_rfl) (fun _ _ _ h => h) (by rfl) ?hy3A1y (by assumption) ?_
              case hy3A1y => intro WW hSw; (try dsimp only at hSw); go_simp; try with_reducible rfl
              try simp only [Act.put, List.setIfInBounds_toArray, List.set_cons_zero, List.set_cons_succ]
              refine take_in (i := 4) (v := ?v4A1y) rfl (by kernel_rfl) (by kernel_rfl) (by kernel_rfl) (fun _ _ _ h => h) (by rfl) ?hy4A1y (by assumption) ?_
              case hy4A1y => intro WW hSw; (try dsimp only at hSw); go_simp; try with_reducible rfl
              try simp only [Act.put, List.setIfInBounds_toArray, List.set_cons_zero, List.set_cons_succ]
              refine take_in (i := 5) (v := ?v5A1y) rfl (by kernel_rfl) (by kernel_rfl) (by kernel_rfl) (fun _ _ _ h => h) (by rfl) ?hy5A1y (by assumption) ?_
              case hy5A1y => intro WW hSw; (try dsimp only at hSw); go_simp; try with_reducible rfl
              try simp only [Act.put, List.setIfInBounds_toArray, List.set_cons_zero, List.set_cons_succ]
              refine take_in (i := 6) (v := ?v6A1y) rfl (by kernel_rfl) (by kernel_rfl) (by kernel_rfl) (fun _ _ _ h => h) (by rfl) ?hy6A1y (by assumption) ?_
              case hy6A1y => intro WW hSw; (try dsimp only at hSw); go_simp; try with_reducible rfl
              try simp only [Act.put, List.setIfInBounds_toArray, List.set_cons_zero, List.set_cons_succ]
              refine take_in (i := 7) (v := ?v7A1y) rfl (by kernel_rfl) (by kernel_rfl) (by kernel_rfl) (fun _ _ _ h => h) (by rfl) ?hy7A1y (by assumption) ?_
              case hy7A1y => intro WW hSw; (try dsimp only at hSw); go_simp; try with_reducible rfl
              try simp only [Act.put, List.setIfInBounds_toArray, List.set_cons_zero, List.set_cons_succ]
              refine take_in (i := 8) (v := ?v8A1y) rfl (by kernel_rfl) (by kernel_rfl) (by kernel_rfl) (fun _ _ _ h => h) (by rfl) ?hy8A1y (by assumption) ?_
              case hy8A1y => intro WW hSw; (try dsimp only at hSw); go_simp; try with_reducible rfl
              try simp only [Act.put, List.setIfInBounds_toArray, List.set_cons_zero, List.set_cons_succ]
              refine take_in (i := 9) (v := ?v9A1y) rfl (by kernel_rfl) (by kernel_rfl) (by kernel_rfl) (fun _ _ _ h => h) (by rfl) ?hy9A1y (by assumption) ?_
              case hy9A1y => intro WW hSw; (try dsimp only at hSw); go_simp; try with_reducible rfl
              try simp only [Act.put, List.setIfInBounds_toArray, List.set_cons_zero, List.set_cons_succ]
              refine take_in (i := 10) (v := ?v10A1y) rfl (by kernel_rfl) (by kernel_rfl) (by kernel_rfl) (fun _ _ _ h => h) (by rfl) ?hy10A1y (by assumption) ?_
              case hy10A1y => intro WW hSw; (try dsimp only at hSw); go_simp; try with_reducible rfl
              try simp only [Act.put, List.setIfInBounds_toArray, List.set_cons_zero, List.set_cons_succ]
              refine take_in (i := 11) (v := ?v11A1y) rfl (by kernel_rfl) (by kernel_rfl) (by kernel_rfl) (fun _ _ _ h => h) (by rfl) ?hy11A1y (by assumption) ?_
              case hy11A1y => intro WW hSw; (try dsimp only at hSw); go_simp; try with_reducible rfl
              try simp only [Act.put, List.setIfInBounds_toArray, List.set_cons_zero, List.set_cons_succ]
              refine wpAnyH_done (by kernel_rfl) ?_ _
              have hstep : 1 = (if same = 0 ∨ v ≠ n then 1 else same + 1) := by
                rw [if_pos (.inl HS0.out)]
              have hsb : ((1 : Int) == (m : Int)) = true := by rw [beq_iff_eq]; have := HT.out; omega
              have hnext := meet_tell hup HI.out.1 v HV.out (by rw [← hstep]; have := HT.out; have := HLM.out; omega)
              have hmu := mu_tell HI.out.1 v HV.out 0 v (out ++ [v])
              have hol : out.length < 17592186044416 := by
                obtain ⟨r, hc, _, _⟩ := hnext.rest
                have h1 := common_len ls hne
                have h2 := HNUM0.out
                rw [hc] at h1
                simp only [List.length_append, List.length_singleton] at h1
                omega
              have HNX := Aside0.mk (And.intro hnext hmu)
              clear hstep hnext hmu
              obtain ⟨Wd, hWd⟩ : ∃ Wd, Wd = wr.drew.drew.drew := ⟨_, rfl⟩
              rw [← hWd]
              have hRd : RowA Wd g (ats.set k p) := by rw [hWd]; exact hR
              have hod : Wd.ownsRow (g + 1) 3 1 u7 out.length (numCells out) := by rw [hWd]; exact ho
              have HBd : Below w.heap.size w Wd := by rw [hWd]; exact ⟨HB.os, HB.tape, HB.output, HB.size, HB.block⟩
              clear hR ho HB hA hL hN hWd
              go_wp2_with (at_builtin; go_loud (refine append_num rfl (.tmp 111) (.tmp 113) rfl (g + 1) _ _ _ rfl hod v rfl hol (by have := hRd.lt; exact this) ?_))
              intro v9 w9 ho9 hfr9 hb9
              have hR9 : RowA w9 g (ats.set k p) := (hfr9 g (Nat.lt_succ_self g) hRd.lt).trans hRd
              have HB9 : Below w.heap.size w w9 := HBd.trans (hb9.mono hgw)
              have hA9 := hR9.cell k hkset
              have hf9 := hR9.free k
              rw [hgs] at hA9
              have hp1 : (p : Int) + 1 = (p1 : Int) := by have := HP1.out; omega
              clear hod hRd HBd hfr9 hb9
              go_wp2
              go_roundg (gk - 1)
              case measure => have := HI.out.2; omega
              case rel =>
                refine ⟨kn, ats.set k (p + 1), 0, v, out ++ [v], rfl, rfl, by first | rfl | exact congrArg (Value.int .i64) hmod, ?_, ?_, ?_, ⟨?_, ?_⟩⟩
                · have h := hR9.put k p1
                  rw [List.set_set, HP1.out] at h
                  have e : ((p1 : Nat) : Int) = ((p + 1 : Nat) : Int) := by rw [HP1.out]
                  rw [e]
                  exact h
                · have e : numCells (out ++ [v]) = numCells out ++ [.int .i64 v] := by simp [numCells]
                  rw [List.length_append, e]
                  exact own_off ho9 (Nat.lt_succ_self g)
                · exact below_set HB9 (by exact hgw0) _
                · have h := HNX.out.1
                  rw [HP.out] at h
                  rw [HKN.out]; exact h
                · have h := HNX.out.2
                  rw [HP.out] at h
                  have := HI.out.2; omega
            · have HT := Aside0.mk ht
              clear ht
              go_upto_region 22 with (fail)
              refine wp_region_held_drew (S := (fun WW => WW.cell? (ad0.add k) = some (.slice (some adk) l.length ck) ∧ WW.cell? ⟨g, k, none⟩ = some (.int .i64 (p : Int)) ∧ WW.cell? (adk.add p) = some (.int .i64 v))) (by kernel_rfl) ?_ (fun hHeld => ?_)
              · exact ⟨hL, hA, hN⟩
              refine take_in (i := 0) (v := ?v0A2x) rfl (by kernel_rfl) (by kernel_rfl) (by kernel_rfl) (fun _ _ _ h => h) (by rfl) ?hy0A2x (by assumption) ?_
              case hy0A2x => intro WW hSw; (try dsimp only at hSw); go_simp; try with_reducible rfl
              try simp only [Act.put, List.setIfInBounds_toArray, List.set_cons_zero, List.set_cons_succ]
              refine take_in (i := 1) (v := .bool true) rfl (by kernel_rfl) (by kernel_rfl) (by kernel_rfl) (fun _ _ _ h => h) (by rfl) ?hy1A2x (by assumption) ?_
              case hy1A2x => intro WW hSw; (try dsimp only at hSw); go_simp; try with_reducible rfl
              try simp only [Act.put, List.setIfInBounds_toArray, List.set_cons_zero, List.set_cons_succ]
              refine take_in (i := 2) (v := .bool true) rfl (by kernel_rfl) (by kernel_rfl) (by kernel_rfl) (fun _ _ _ h => h) (by rfl) ?hy2A2x (by assumption) ?_
              case hy2A2x => intro WW hSw; (try dsimp only at hSw); go_simp; try with_reducible rfl
              try simp only [Act.put, List.setIfInBounds_toArray, List.set_cons_zero, List.set_cons_succ]
              refine take_out (i := 3) rfl (by kernel_rfl) (by kernel_rfl) (by kernel_rfl) (fun _ _ _ h => h) (by rfl) (by assumption) ?_
              try simp only [Act.put, List.setIfInBounds_toArray, List.set_cons_zero, List.set_cons_succ]
              refine take_out (i := 4) rfl (by kernel_rfl) (by kernel_rfl) (by kernel_rfl) (fun _ _ _ h => h) (by rfl) (by assumption) ?_
              try simp only [Act.put, List.setIfInBounds_toArray, List.set_cons_zero, List.set_cons_succ]
              refine take_out (i := 5) rfl (by kernel_rfl) (by kernel_rfl) (by kernel_rfl) (fun _ _ _ h => h) (by rfl) (by assumption) ?_
              try simp only [Act.put, List.setIfInBounds_toArray, List.set_cons_zero, List.set_cons_succ]
              refine take_out (i := 6) rfl (by kernel_rfl) (by kernel_rfl) (by kernel_rfl) (fun _ _ _ h => h) (by rfl) (by assumption) ?_
              try simp only [Act.put, List.setIfInBounds_toArray, List.set_cons_zero, List.set_cons_succ]
              refine take_out (i := 7) rfl (by kernel_rfl) (by kernel_rfl) (by kernel_rfl) (fun _ _ _ h => h) (by rfl) (by assumption) ?_
              try simp only [Act.put, List.setIfInBounds_toArray, List.set_cons_zero, List.set_cons_succ]
              refine take_out (i := 8) rfl (by kernel_rfl) (by kernel_rfl) (by kernel_rfl) (fun _ _ _ h => h) (by rfl) (by assumption) ?_
              try simp only [Act.put, List.setIfInBounds_toArray, List.set_cons_zero, List.set_cons_succ]
              refine take_out (i := 9) rfl (by kernel_rfl) (by kernel_rfl) (by kernel_rfl) (fun _ _ _ h => h) (by rfl) (by assumption) ?_
              try simp only [Act.put, List.setIfInBounds_toArray, List.set_cons_zero, List.set_cons_succ]
              refine take_out (i := 10) rfl (by kernel_rfl) (by kernel_rfl) (by kernel_rfl) (fun _ _ _ h => h) (by rfl) (by assumption) ?_
              try simp only [Act.put, List.setIfInBounds_toArray, List.set_cons_zero, List.set_cons_succ]
              refine take_out (i := 11) rfl (by kernel_rfl) (by kernel_rfl) (by kernel_rfl) (fun _ _ _ h => h) (by rfl) (by assumption) ?_
              try simp only [Act.put, List.setIfInBounds_toArray, List.set_cons_zero, List.set_cons_succ]
              refine take_out (i := 12) rfl (by kernel_rfl) (by kernel_rfl) (by kernel_rfl) (fun _ _ _ h => h) (by rfl) (by assumption) ?_
              try simp only [Act.put, List.setIfInBounds_toArray, List.set_cons_zero, List.set_cons_succ]
              refine take_out (i := 13) rfl (by kernel_rfl) (by kernel_rfl) (by kernel_rfl) (fun _ _ _ h => h) (by rfl) (by assumption) ?_
              try simp only [Act.put, List.setIfInBounds_toArray, List.set_cons_zero, List.set_cons_succ]
              refine take_out (i := 14) rfl (by kernel_rfl) (by kernel_rfl) (by kernel_rfl) (fun _ _ _ h => h) (by rfl) (by assumption) ?_
              try simp only [Act.put, List.setIfInBounds_toArray, List.set_cons_zero, List.set_cons_succ]
              refine take_in (i := 15) (v := .bool true) rfl (by kernel_rfl) (by kernel_rfl) (by kernel_rfl) (fun _ _ _ h => h) (by rfl) ?hy15A2x (by assumption) ?_
              case hy15A2x => intro WW hSw; (try dsimp only at hSw); go_simp; try with_reducible rfl
              try simp only [Act.put, List.setIfInBounds_toArray, List.set_cons_zero, List.set_cons_succ]
              refine wpAnyH_done (by kernel_rfl) ?_ _
              go_upto_region 23 with (fail)
              refine wp_region_held_drew (S := (fun WW => WW.cell? (ad0.add k) = some (.slice (some adk) l.length ck) ∧ WW.cell? ⟨g, k, none⟩ = some (.int .i64 (p : Int)) ∧ WW.cell? (adk.add p) = some (.int .i64 v))) (by kernel_rfl) ?_ (fun hHeld => ?_)
              · exact ⟨hL, hA, hN⟩
              refine take_in (i := 0) (v := ?v0A2y) rfl (by kernel_rfl) (by kernel_rfl) (by kernel_rfl) (fun _ _ _ h => h) (by rfl) ?hy0A2y (by assumption) ?_
              case hy0A2y => intro WW hSw; (try dsimp only at hSw); go_simp; try with_reducible rfl
              try simp only [Act.put, List.setIfInBounds_toArray, List.set_cons_zero, List.set_cons_succ]
              refine take_in (i := 1) (v := ?v1A2y) rfl (by kernel_rfl) (by kernel_rfl) (by kernel_rfl) (fun _ _ _ h => h) (by rfl) ?hy1A2y (by assumption) ?_
              case hy1A2y => intro WW hSw; (try dsimp only at hSw); go_simp; try with_reducible rfl
              try simp only [Act.put, List.setIfInBounds_toArray, List.set_cons_zero, List.set_cons_succ]
              refine take_in (i := 2) (v := ?v2A2y) rfl (by kernel_rfl) (by kernel_rfl) (by kernel_rfl) (fun _ _ _ h => h) (by rfl) ?hy2A2y (by assumption) ?_
              case hy2A2y => intro WW hSw; (try dsimp only at hSw); go_simp; try with_reducible rfl
              try simp only [Act.put, List.setIfInBounds_toArray, List.set_cons_zero, List.set_cons_succ]
              refine take_in (i := 3) (v := ?v3A2y) rfl (by kernel_rfl) (by kernel_rfl) (by kernel_rfl) (fun _ _ _ h => h) (by rfl) ?hy3A2y (by assumption) ?_
              case hy3A2y => intro WW hSw; (try dsimp only at hSw); go_simp; try with_reducible rfl
              try simp only [Act.put, List.setIfInBounds_toArray, List.set_cons_zero, List.set_cons_succ]
              refine take_in (i := 4) (v := ?v4A2y) rfl (by kernel_rfl) (by kernel_rfl) (by kernel_rfl) (fun _ _ _ h => h) (by rfl) ?hy4A2y (by assumption) ?_
              case hy4A2y => intro WW hSw; (try dsimp only at hSw); go_simp; try with_reducible rfl
              try simp only [Act.put, List.setIfInBounds_toArray, List.set_cons_zero, List.set_cons_succ]
              refine take_in (i := 5) (v := ?v5A2y) rfl (by kernel_rfl) (by kernel_rfl) (by kernel_rfl) (fun _ _ _ h => h) (by rfl) ?hy5A2y (by assumption) ?_
              case hy5A2y => intro WW hSw; (try dsimp only at hSw); go_simp; try with_reducible rfl
              try simp only [Act.put, List.setIfInBounds_toArray, List.set_cons_zero, List.set_cons_succ]
              refine take_in (i := 6) (v := ?v6A2y) rfl (by kernel_rfl) (by kernel_rfl) (by kernel_rfl) (fun _ _ _ h => h) (by rfl) ?hy6A2y (by assumption) ?_
              case hy6A2y => intro WW hSw; (try dsimp only at hSw); go_simp; try with_reducible rfl
              try simp only [Act.put, List.setIfInBounds_toArray, List.set_cons_zero, List.set_cons_succ]
              refine take_in (i := 7) (v := ?v7A2y) rfl (by kernel_rfl) (by kernel_rfl) (by kernel_rfl) (fun _ _ _ h => h) (by rfl) ?hy7A2y (by assumption) ?_
              case hy7A2y => intro WW hSw; (try dsimp only at hSw); go_simp; try with_reducible rfl
              try simp only [Act.put, List.setIfInBounds_toArray, List.set_cons_zero, List.set_cons_succ]
              refine take_in (i := 8) (v := ?v8A2y) rfl (by kernel_rfl) (by kernel_rfl) (by kernel_rfl) (fun _ _ _ h => h) (by rfl) ?hy8A2y (by assumption) ?_
              case hy8A2y => intro WW hSw; (try dsimp only at hSw); go_simp; try with_reducible rfl
              try simp only [Act.put, List.setIfInBounds_toArray, List.set_cons_zero, List.set_cons_succ]
              refine take_in (i := 9) (v := ?v9A2y) rfl (by kernel_rfl) (by kernel_rfl) (by kernel_rfl) (fun _ _ _ h => h) (by rfl) ?hy9A2y (by assumption) ?_
              case hy9A2y => intro WW hSw; (try dsimp only at hSw); go_simp; try with_reducible rfl
              try simp only [Act.put, List.setIfInBounds_toArray, List.set_cons_zero, List.set_cons_succ]
              refine take_in (i := 10) (v := ?v10A2y) rfl (by kernel_rfl) (by kernel_rfl) (by kernel_rfl) (fun _ _ _ h => h) (by rfl) ?hy10A2y (by assumption) ?_
              case hy10A2y => intro WW hSw; (try dsimp only at hSw); go_simp; try with_reducible rfl
              try simp only [Act.put, List.setIfInBounds_toArray, List.set_cons_zero, List.set_cons_succ]
              refine take_in (i := 11) (v := ?v11A2y) rfl (by kernel_rfl) (by kernel_rfl) (by kernel_rfl) (fun _ _ _ h => h) (by rfl) ?hy11A2y (by assumption) ?_
              case hy11A2y => intro WW hSw; (try dsimp only at hSw); go_simp; try with_reducible rfl
              try simp only [Act.put, List.setIfInBounds_toArray, List.set_cons_zero, List.set_cons_succ]
              refine wpAnyH_done (by kernel_rfl) ?_ _
              have hstep : 1 = (if same = 0 ∨ v ≠ n then 1 else same + 1) := by
                rw [if_pos (.inl HS0.out)]
              have hsb : ((1 : Int) == (m : Int)) = false := by rw [beq_eq_false_iff_ne]; have := HT.out; omega
              have hnext := meet_step hup HI.out.1 v HV.out _ hstep (by have := HT.out; have := HLM.out; omega)
              have hmu := mu_step hup HI.out.1 v HV.out _ hstep (by have := HT.out; have := HLM.out; omega)
              have HNX := Aside0.mk (And.intro hnext hmu)
              clear hstep hnext hmu
              obtain ⟨Wd, hWd⟩ : ∃ Wd, Wd = wr.drew.drew.drew := ⟨_, rfl⟩
              rw [← hWd]
              have hRd : RowA Wd g (ats.set k p) := by rw [hWd]; exact hR
              have hod : Wd.ownsRow (g + 1) 3 1 u7 out.length (numCells out) := by rw [hWd]; exact ho
              have HBd : Below w.heap.size w Wd := by rw [hWd]; exact ⟨HB.os, HB.tape, HB.output, HB.size, HB.block⟩
              clear hR ho HB hA hL hN hWd
              go_wp2
              go_roundg (gk - 1)
              case measure => have := HI.out.2; omega
              case rel =>
                refine ⟨kn, ats.set k p, 1, v, out, by go_num, rfl, by first | rfl | exact congrArg (Value.int .i64) hmod, hRd, hod, HBd, ⟨?_, ?_⟩⟩
                · have h := HNX.out.1
                  rw [HP.out] at h
                  rw [HKN.out]; exact h
                · have h := HNX.out.2
                  rw [HP.out] at h
                  have := HI.out.2; omega
        · have hsp : (0 : Int) < (same : Int) := by omega
          have hsk : seekL l atk n = p := by rw [← hp, placeL, if_pos (by omega), HLJ.out, HATK.out]
          have hseek : ∀ W, Below w.heap.size w W → Calls Try.prog 12 #[.slice Ak l.length ck, .int .i64 (atk : Int), .int .i64 n] W fun e w' => e = .returned (.int .i64 (p : Nat)) ∧ Below W.heap.size W w' := fun W hW => by
            have h := seek_any Ak l ck atk n W (HRI.out.below hW) hul hnum hcap hat
            rw [hsk] at h
            exact h
          have HS0 := Aside0.mk hs0
          clear hp hsk hs0
          go_upto_region 20 with (fail)
          refine wp_region_held_drew (S := (fun WW => WW.cell? (ad0.add k) = some (.slice Ak l.length ck))) (by kernel_rfl) ?_ (fun hHeld => ?_)
          · first | exact hLset | exact hL9 | exact hL
          refine take_in (i := 0) (v := ?v0s) rfl (by kernel_rfl) (by kernel_rfl) (by kernel_rfl) (fun _ _ _ h => h) (by rfl) ?hy0s (by assumption) ?_
          case hy0s => intro WW hSw; (try dsimp only at hSw); go_simp; try with_reducible rfl
          try simp only [Act.put, List.setIfInBounds_toArray, List.set_cons_zero, List.set_cons_succ]
          refine take_in (i := 1) (v := ?v1s) rfl (by kernel_rfl) (by kernel_rfl) (by kernel_rfl) (fun _ _ _ h => h) (by rfl) ?hy1s (by assumption) ?_
          case hy1s => intro WW hSw; (try dsimp only at hSw); go_simp; try with_reducible rfl
          try simp only [Act.put, List.setIfInBounds_toArray, List.set_cons_zero, List.set_cons_succ]
          refine take_in (i := 2) (v := ?v2s) rfl (by kernel_rfl) (by kernel_rfl) (by kernel_rfl) (fun _ _ _ h => h) (by rfl) ?hy2s (by assumption) ?_
          case hy2s => intro WW hSw; (try dsimp only at hSw); go_simp; try with_reducible rfl
          try simp only [Act.put, List.setIfInBounds_toArray, List.set_cons_zero, List.set_cons_succ]
          refine take_in (i := 3) (v := ?v3s) rfl (by kernel_rfl) (by kernel_rfl) (by kernel_rfl) (fun _ _ _ h => h) (by rfl) ?hy3s (by assumption) ?_
          case hy3s => intro WW hSw; (try dsimp only at hSw); go_simp; try with_reducible rfl
          try simp only [Act.put, List.setIfInBounds_toArray, List.set_cons_zero, List.set_cons_succ]
          refine take_in (i := 4) (v := ?v4s) rfl (by kernel_rfl) (by kernel_rfl) (by kernel_rfl) (fun _ _ _ h => h) (by rfl) ?hy4s (by assumption) ?_
          case hy4s => intro WW hSw; (try dsimp only at hSw); go_simp; try with_reducible rfl
          try simp only [Act.put, List.setIfInBounds_toArray, List.set_cons_zero, List.set_cons_succ]
          refine take_in (i := 5) (v := ?v5s) rfl (by kernel_rfl) (by kernel_rfl) (by kernel_rfl) (fun _ _ _ h => h) (by rfl) ?hy5s (by assumption) ?_
          case hy5s => intro WW hSw; (try dsimp only at hSw); go_simp; try with_reducible rfl
          try simp only [Act.put, List.setIfInBounds_toArray, List.set_cons_zero, List.set_cons_succ]
          refine take_in (i := 6) (v := ?v6s) rfl (by kernel_rfl) (by kernel_rfl) (by kernel_rfl) (fun _ _ _ h => h) (by rfl) ?hy6s (by assumption) ?_
          case hy6s => intro WW hSw; (try dsimp only at hSw); go_simp; try with_reducible rfl
          try simp only [Act.put, List.setIfInBounds_toArray, List.set_cons_zero, List.set_cons_succ]
          refine take_in (i := 7) (v := ?v7s) rfl (by kernel_rfl) (by kernel_rfl) (by kernel_rfl) (fun _ _ _ h => h) (by rfl) ?hy7s (by assumption) ?_
          case hy7s => intro WW hSw; (try dsimp only at hSw); go_simp; try with_reducible rfl
          try simp only [Act.put, List.setIfInBounds_toArray, List.set_cons_zero, List.set_cons_succ]
          refine take_in (i := 8) (v := ?v8s) rfl (by kernel_rfl) (by kernel_rfl) (by kernel_rfl) (fun _ _ _ h => h) (by rfl) ?hy8s (by assumption) ?_
          case hy8s => intro WW hSw; (try dsimp only at hSw); go_simp; try with_reducible rfl
          try simp only [Act.put, List.setIfInBounds_toArray, List.set_cons_zero, List.set_cons_succ]
          refine take_in (i := 10) (v := ?v10s) rfl (by kernel_rfl) (by kernel_rfl) (by kernel_rfl) (fun _ _ _ h => h) (by rfl) ?hy10s (by assumption) ?_
          case hy10s => intro WW hSw; (try dsimp only at hSw); go_simp; try with_reducible rfl
          try simp only [Act.put, List.setIfInBounds_toArray, List.set_cons_zero, List.set_cons_succ]
          refine take_in (i := 11) (v := ?v11s) rfl (by kernel_rfl) (by kernel_rfl) (by kernel_rfl) (fun _ _ _ h => h) (by rfl) ?hy11s (by assumption) ?_
          case hy11s => intro WW hSw; (try dsimp only at hSw); go_simp; try with_reducible rfl
          try simp only [Act.put, List.setIfInBounds_toArray, List.set_cons_zero, List.set_cons_succ]
          refine take_in (i := 12) (v := ?v12s) rfl (by kernel_rfl) (by kernel_rfl) (by kernel_rfl) (fun _ _ _ h => h) (by rfl) ?hy12s (by assumption) ?_
          case hy12s => intro WW hSw; (try dsimp only at hSw); go_simp; try with_reducible rfl
          try simp only [Act.put, List.setIfInBounds_toArray, List.set_cons_zero, List.set_cons_succ]
          refine take_in (i := 13) (v := ?v13s) rfl (by kernel_rfl) (by kernel_rfl) (by kernel_rfl) (fun _ _ _ h => h) (by rfl) ?hy13s (by assumption) ?_
          case hy13s => intro WW hSw; (try dsimp only at hSw); go_simp; try with_reducible rfl
          try simp only [Act.put, List.setIfInBounds_toArray, List.set_cons_zero, List.set_cons_succ]
          refine take_in (i := 14) (v := ?v14s) rfl (by kernel_rfl) (by kernel_rfl) (by kernel_rfl) (fun _ _ _ h => h) (by rfl) ?hy14s (by assumption) ?_
          case hy14s => intro WW hSw; (try dsimp only at hSw); go_simp; try with_reducible rfl
          try simp only [Act.put, List.setIfInBounds_toArray, List.set_cons_zero, List.set_cons_succ]
          refine take_in (i := 16) (v := ?v16s) rfl (by kernel_rfl) (by kernel_rfl) (by kernel_rfl) (fun _ _ _ h => h) (by rfl) ?hy16s (by assumption) ?_
          case hy16s => intro WW hSw; (try dsimp only at hSw); go_simp; try with_reducible rfl
          try simp only [Act.put, List.setIfInBounds_toArray, List.set_cons_zero, List.set_cons_succ]
          refine one_step (i := 9) (by kernel_rfl) rfl (fun K hK => ?_)
          go_simp
          refine hK.out _ _ ?_ (fun hHeld => ?_)
          · first | exact hLset | exact hL9 | exact hL
          clear hK K
          try simp only [Act.put, List.setIfInBounds_toArray, List.set_cons_zero, List.set_cons_succ]
          refine one_step (i := 15) (by kernel_rfl) rfl (fun K hK => ?_)
          go_simp
          refine hK.out _ _ ?_ (fun hHeld => ?_)
          · first | exact hLset | exact hL9 | exact hL
          clear hK K
          try simp only [Act.put, List.setIfInBounds_toArray, List.set_cons_zero, List.set_cons_succ]
          refine one_step (i := 17) (by kernel_rfl) rfl (fun K hK => ?_)
          go_simp
          (go_at_call 12; go_loud ((with_reducible refine (hseek _ ?_).mono ?_); exact (by repeat (first | exact Below.refl _ _ | assumption | apply below_drew | apply below_drewn)); rintro e w9 ⟨rfl, hb9⟩; have HB9 : Below w.heap.size w w9 := below_then (by repeat (first | exact Below.refl _ _ | assumption | apply below_drew | apply below_drewn)) hb9; have hL9 := (hb9.cell (World.block_lt_of_cell? _ _ hL)).trans hL; have hR9 := rowA_next hb9 hR; have ho9 := own_next hb9 ho; have hfr9 := hR9.free k; have hA9 := hR9.cell k (by omega); have hLset := cell_off (g := g) (k := k) (u := .int .i64 (p : Int)) hL9 (by omega)))
          refine hK.out _ _ ?_ (fun hHeld => ?_)
          · first | exact hLset | exact hL9 | exact hL
          clear hK K
          try simp only [Act.put, List.setIfInBounds_toArray, List.set_cons_zero, List.set_cons_succ]
          refine take_in (i := 18) (v := ?v18s) rfl (by kernel_rfl) (by kernel_rfl) (by kernel_rfl) (fun _ _ _ h => h) (by rfl) ?hy18s (by assumption) ?_
          case hy18s => intro WW hSw; (try dsimp only at hSw); go_simp; try with_reducible rfl
          try simp only [Act.put, List.setIfInBounds_toArray, List.set_cons_zero, List.set_cons_succ]
          refine one_step (i := 19) (by kernel_rfl) rfl (fun K hK => ?_)
          go_simp
          refine hK.out _ _ ?_ (fun hHeld => ?_)
          · first | exact hLset | exact hL9 | exact hL
          clear hK K
          try simp only [Act.put, List.setIfInBounds_toArray, List.set_cons_zero, List.set_cons_succ]
          refine wpAnyH_done (by kernel_rfl) ?_ _
          obtain ⟨wz, hwz⟩ : ∃ wz, wz = w9.setCell ⟨g, k, none⟩ (.int .i64 (p : Int)) := ⟨_, rfl⟩
          rw [← hwz]
          have hL2 : wz.cell? (ad0.add k) = some (.slice Ak l.length ck) := by rw [hwz]; exact hLset
          have hR2 : RowA wz g (ats.set k p) := by rw [hwz]; exact hR9.put k p
          have ho2 : wz.ownsRow (g + 1) 3 1 u7 out.length (numCells out) := by rw [hwz]; exact own_off ho9 (Nat.lt_succ_self g)
          have HB2 : Below w.heap.size w wz := by rw [hwz]; exact below_set HB9 (by exact hgw0) _
          have hA2 : wz.cell? ⟨g, k, none⟩ = some (.int .i64 (p : Int)) := by
            have h := hR2.cell k hkset
            rw [hgs] at h
            exact h
          clear hL hR ho HB hA hfr hL9 hR9 ho9 HB9 hfr9 hA9 hLset hwz HBy hmin hseek hb9
          have hL := hL2
          have hR := hR2
          have ho := ho2
          have HB := HB2
          have hA := hA2
          clear hL2 hR2 ho2 HB2 hA2
          by_cases hpl : (ls.getD k []).length ≤ p
          · have hpe : ((p : Int) ≥ (l.length : Int)) := by rw [← HLJ.out]; omega
            have hpeb : decide ((l.length : Int) ≤ (p : Int)) = true := by simp; omega
            have hcm := meet_end HI.out.1 (by rw [HP.out]; exact hpl)
            go_upto_region 21 with (fail)
            refine wp_region_held_drew (S := (fun WW => WW.cell? (ad0.add k) = some (.slice Ak l.length ck) ∧ WW.cell? ⟨g, k, none⟩ = some (.int .i64 (p : Int)))) (by kernel_rfl) ?_ (fun hHeld => ?_)
            · exact ⟨hL, hA⟩
            refine take_in (i := 0) (v := ?v0Be) rfl (by kernel_rfl) (by kernel_rfl) (by kernel_rfl) (fun _ _ _ h => h) (by rfl) ?hy0Be (by assumption) ?_
            case hy0Be => intro WW hSw; (try dsimp only at hSw); go_simp; try with_reducible rfl
            try simp only [Act.put, List.setIfInBounds_toArray, List.set_cons_zero, List.set_cons_succ]
            refine take_in (i := 1) (v := ?v1Be) rfl (by kernel_rfl) (by kernel_rfl) (by kernel_rfl) (fun _ _ _ h => h) (by rfl) ?hy1Be (by assumption) ?_
            case hy1Be => intro WW hSw; (try dsimp only at hSw); go_simp; try with_reducible rfl
            try simp only [Act.put, List.setIfInBounds_toArray, List.set_cons_zero, List.set_cons_succ]
            refine take_in (i := 2) (v := ?v2Be) rfl (by kernel_rfl) (by kernel_rfl) (by kernel_rfl) (fun _ _ _ h => h) (by rfl) ?hy2Be (by assumption) ?_
            case hy2Be => intro WW hSw; (try dsimp only at hSw); go_simp; try with_reducible rfl
            try simp only [Act.put, List.setIfInBounds_toArray, List.set_cons_zero, List.set_cons_succ]
            refine take_in (i := 3) (v := ?v3Be) rfl (by kernel_rfl) (by kernel_rfl) (by kernel_rfl) (fun _ _ _ h => h) (by rfl) ?hy3Be (by assumption) ?_
            case hy3Be => intro WW hSw; (try dsimp only at hSw); go_simp; try with_reducible rfl
            try simp only [Act.put, List.setIfInBounds_toArray, List.set_cons_zero, List.set_cons_succ]
            refine take_in (i := 4) (v := ?v4Be) rfl (by kernel_rfl) (by kernel_rfl) (by kernel_rfl) (fun _ _ _ h => h) (by rfl) ?hy4Be (by assumption) ?_
            case hy4Be => intro WW hSw; (try dsimp only at hSw); go_simp; try with_reducible rfl
            try simp only [Act.put, List.setIfInBounds_toArray, List.set_cons_zero, List.set_cons_succ]
            refine take_in (i := 5) (v := ?v5Be) rfl (by kernel_rfl) (by kernel_rfl) (by kernel_rfl) (fun _ _ _ h => h) (by rfl) ?hy5Be (by assumption) ?_
            case hy5Be => intro WW hSw; (try dsimp only at hSw); go_simp; try with_reducible rfl
            try simp only [Act.put, List.setIfInBounds_toArray, List.set_cons_zero, List.set_cons_succ]
            refine take_in (i := 6) (v := ?v6Be) rfl (by kernel_rfl) (by kernel_rfl) (by kernel_rfl) (fun _ _ _ h => h) (by rfl) ?hy6Be (by assumption) ?_
            case hy6Be => intro WW hSw; (try dsimp only at hSw); go_simp; try with_reducible rfl
            try simp only [Act.put, List.setIfInBounds_toArray, List.set_cons_zero, List.set_cons_succ]
            refine take_in (i := 7) (v := ?v7Be) rfl (by kernel_rfl) (by kernel_rfl) (by kernel_rfl) (fun _ _ _ h => h) (by rfl) ?hy7Be (by assumption) ?_
            case hy7Be => intro WW hSw; (try dsimp only at hSw); go_simp; try with_reducible rfl
            try simp only [Act.put, List.setIfInBounds_toArray, List.set_cons_zero, List.set_cons_succ]
            refine take_in (i := 8) (v := ?v8Be) rfl (by kernel_rfl) (by kernel_rfl) (by kernel_rfl) (fun _ _ _ h => h) (by rfl) ?hy8Be (by assumption) ?_
            case hy8Be => intro WW hSw; (try dsimp only at hSw); go_simp; try with_reducible rfl
            try simp only [Act.put, List.setIfInBounds_toArray, List.set_cons_zero, List.set_cons_succ]
            refine take_in (i := 9) (v := .bool true) rfl (by kernel_rfl) (by kernel_rfl) (by kernel_rfl) (fun _ _ _ h => h) (by rfl) ?hy9Be (by assumption) ?_
            case hy9Be => intro WW hSw; (try dsimp only at hSw); have hh := hpe; go_simp; try with_reducible rfl
            try simp only [Act.put, List.setIfInBounds_toArray, List.set_cons_zero, List.set_cons_succ]
            refine wpAnyH_done (by kernel_rfl) ?_ _
            go_wp2
            go_step3
            apply And.intro rfl
            refine ⟨_, rfl, HUP.out, ?_, ⟨HB.os, HB.tape, HB.output, HB.size, HB.block⟩⟩
            rw [hcm]
            exact own_base ho hgw
          · have hpe : ¬ ((p : Int) ≥ (l.length : Int)) := by rw [← HLJ.out]; omega
            have hpi : (p : Int) < (l.length : Int) := by omega
            have hpl2 : p < l.length := by omega
            obtain ⟨adk, hAk, hcs⟩ := (HRI.out.below HB).2 (by omega)
            have hN := hcs p hpl2
            have hv : l[p]? = some (l.getD p 0) := by rw [List.getD_eq_getElem?_getD, List.getElem?_eq_getElem hpl2]; rfl
            subst hAk
            clear hcs
            generalize l.getD p 0 = v at hN hv
            have HV : Aside0 ((ls.getD k [])[placeL ls k ats same n]? = some v) := ⟨by rw [HP.out, HLJ.out]; exact hv⟩
            have hp0 : (0 : Int) ≤ (p : Int) := by omega
            have hpbig : (p : Int) ≤ 17592186044416 := by omega
            clear hv
            go_upto_region 21 with (fail)
            refine wp_region_held_drew (S := (fun WW => WW.cell? (ad0.add k) = some (.slice (some adk) l.length ck) ∧ WW.cell? ⟨g, k, none⟩ = some (.int .i64 (p : Int)))) (by kernel_rfl) ?_ (fun hHeld => ?_)
            · exact ⟨hL, hA⟩
            refine take_in (i := 0) (v := ?v0Bn) rfl (by kernel_rfl) (by kernel_rfl) (by kernel_rfl) (fun _ _ _ h => h) (by rfl) ?hy0Bn (by assumption) ?_
            case hy0Bn => intro WW hSw; (try dsimp only at hSw); go_simp; try with_reducible rfl
            try simp only [Act.put, List.setIfInBounds_toArray, List.set_cons_zero, List.set_cons_succ]
            refine take_in (i := 1) (v := ?v1Bn) rfl (by kernel_rfl) (by kernel_rfl) (by kernel_rfl) (fun _ _ _ h => h) (by rfl) ?hy1Bn (by assumption) ?_
            case hy1Bn => intro WW hSw; (try dsimp only at hSw); go_simp; try with_reducible rfl
            try simp only [Act.put, List.setIfInBounds_toArray, List.set_cons_zero, List.set_cons_succ]
            refine take_in (i := 2) (v := ?v2Bn) rfl (by kernel_rfl) (by kernel_rfl) (by kernel_rfl) (fun _ _ _ h => h) (by rfl) ?hy2Bn (by assumption) ?_
            case hy2Bn => intro WW hSw; (try dsimp only at hSw); go_simp; try with_reducible rfl
            try simp only [Act.put, List.setIfInBounds_toArray, List.set_cons_zero, List.set_cons_succ]
            refine take_in (i := 3) (v := ?v3Bn) rfl (by kernel_rfl) (by kernel_rfl) (by kernel_rfl) (fun _ _ _ h => h) (by rfl) ?hy3Bn (by assumption) ?_
            case hy3Bn => intro WW hSw; (try dsimp only at hSw); go_simp; try with_reducible rfl
            try simp only [Act.put, List.setIfInBounds_toArray, List.set_cons_zero, List.set_cons_succ]
            refine take_in (i := 4) (v := ?v4Bn) rfl (by kernel_rfl) (by kernel_rfl) (by kernel_rfl) (fun _ _ _ h => h) (by rfl) ?hy4Bn (by assumption) ?_
            case hy4Bn => intro WW hSw; (try dsimp only at hSw); go_simp; try with_reducible rfl
            try simp only [Act.put, List.setIfInBounds_toArray, List.set_cons_zero, List.set_cons_succ]
            refine take_in (i := 5) (v := ?v5Bn) rfl (by kernel_rfl) (by kernel_rfl) (by kernel_rfl) (fun _ _ _ h => h) (by rfl) ?hy5Bn (by assumption) ?_
            case hy5Bn => intro WW hSw; (try dsimp only at hSw); go_simp; try with_reducible rfl
            try simp only [Act.put, List.setIfInBounds_toArray, List.set_cons_zero, List.set_cons_succ]
            refine take_in (i := 6) (v := ?v6Bn) rfl (by kernel_rfl) (by kernel_rfl) (by kernel_rfl) (fun _ _ _ h => h) (by rfl) ?hy6Bn (by assumption) ?_
            case hy6Bn => intro WW hSw; (try dsimp only at hSw); go_simp; try with_reducible rfl
            try simp only [Act.put, List.setIfInBounds_toArray, List.set_cons_zero, List.set_cons_succ]
            refine take_in (i := 7) (v := ?v7Bn) rfl (by kernel_rfl) (by kernel_rfl) (by kernel_rfl) (fun _ _ _ h => h) (by rfl) ?hy7Bn (by assumption) ?_
            case hy7Bn => intro WW hSw; (try dsimp only at hSw); go_simp; try with_reducible rfl
            try simp only [Act.put, List.setIfInBounds_toArray, List.set_cons_zero, List.set_cons_succ]
            refine take_in (i := 8) (v := ?v8Bn) rfl (by kernel_rfl) (by kernel_rfl) (by kernel_rfl) (fun _ _ _ h => h) (by rfl) ?hy8Bn (by assumption) ?_
            case hy8Bn => intro WW hSw; (try dsimp only at hSw); go_simp; try with_reducible rfl
            try simp only [Act.put, List.setIfInBounds_toArray, List.set_cons_zero, List.set_cons_succ]
            refine take_in (i := 9) (v := .bool false) rfl (by kernel_rfl) (by kernel_rfl) (by kernel_rfl) (fun _ _ _ h => h) (by rfl) ?hy9Bn (by assumption) ?_
            case hy9Bn => intro WW hSw; (try dsimp only at hSw); have hh := hpe; go_simp; try with_reducible rfl
            try simp only [Act.put, List.setIfInBounds_toArray, List.set_cons_zero, List.set_cons_succ]
            refine wpAnyH_done (by kernel_rfl) ?_ _
            have hs0b : ((same : Int) == 0) = false := by rw [beq_eq_false_iff_ne]; have := HS0.out; omega
            by_cases hvne : v ≠ n
            · have hvn : (v != n) = true := by simp [hvne]
              by_cases ht : 1 = m
              · have HT := Aside0.mk ht
                clear ht
                go_upto_region 22 with (fail)
                refine wp_region_held_drew (S := (fun WW => WW.cell? (ad0.add k) = some (.slice (some adk) l.length ck) ∧ WW.cell? ⟨g, k, none⟩ = some (.int .i64 (p : Int)) ∧ WW.cell? (adk.add p) = some (.int .i64 v))) (by kernel_rfl) ?_ (fun hHeld => ?_)
                · exact ⟨hL, hA, hN⟩
                refine take_in (i := 0) (v := ?v0B1x) rfl (by kernel_rfl) (by kernel_rfl) (by kernel_rfl) (fun _ _ _ h => h) (by rfl) ?hy0B1x (by assumption) ?_
                case hy0B1x => intro WW hSw; (try dsimp only at hSw); go_simp; try with_reducible rfl
                try simp only [Act.put, List.setIfInBounds_toArray, List.set_cons_zero, List.set_cons_succ]
                refine take_in (i := 1) (v := .bool false) rfl (by kernel_rfl) (by kernel_rfl) (by kernel_rfl) (fun _ _ _ h => h) (by rfl) ?hy1B1x (by assumption) ?_
                case hy1B1x => intro WW hSw; (try dsimp only at hSw); have hh := hs0b; go_simp; try with_reducible rfl
                try simp only [Act.put, List.setIfInBounds_toArray, List.set_cons_zero, List.set_cons_succ]
                refine take_in (i := 2) (v := .bool false) rfl (by kernel_rfl) (by kernel_rfl) (by kernel_rfl) (fun _ _ _ h => h) (by rfl) ?hy2B1x (by assumption) ?_
                case hy2B1x => intro WW hSw; (try dsimp only at hSw); go_simp; try with_reducible rfl
                try simp only [Act.put, List.setIfInBounds_toArray, List.set_cons_zero, List.set_cons_succ]
                refine take_in (i := 3) (v := ?v3B1x) rfl (by kernel_rfl) (by kernel_rfl) (by kernel_rfl) (fun _ _ _ h => h) (by rfl) ?hy3B1x (by assumption) ?_
                case hy3B1x => intro WW hSw; (try dsimp only at hSw); go_simp; try with_reducible rfl
                try simp only [Act.put, List.setIfInBounds_toArray, List.set_cons_zero, List.set_cons_succ]
                refine take_in (i := 4) (v := ?v4B1x) rfl (by kernel_rfl) (by kernel_rfl) (by kernel_rfl) (fun _ _ _ h => h) (by rfl) ?hy4B1x (by assumption) ?_
                case hy4B1x => intro WW hSw; (try dsimp only at hSw); go_simp; try with_reducible rfl
                try simp only [Act.put, List.setIfInBounds_toArray, List.set_cons_zero, List.set_cons_succ]
                refine take_in (i := 5) (v := ?v5B1x) rfl (by kernel_rfl) (by kernel_rfl) (by kernel_rfl) (fun _ _ _ h => h) (by rfl) ?hy5B1x (by assumption) ?_
                case hy5B1x => intro WW hSw; (try dsimp only at hSw); go_simp; try with_reducible rfl
                try simp only [Act.put, List.setIfInBounds_toArray, List.set_cons_zero, List.set_cons_succ]
                refine take_in (i := 6) (v := ?v6B1x) rfl (by kernel_rfl) (by kernel_rfl) (by kernel_rfl) (fun _ _ _ h => h) (by rfl) ?hy6B1x (by assumption) ?_
                case hy6B1x => intro WW hSw; (try dsimp only at hSw); go_simp; try with_reducible rfl
                try simp only [Act.put, List.setIfInBounds_toArray, List.set_cons_zero, List.set_cons_succ]
                refine take_in (i := 7) (v := ?v7B1x) rfl (by kernel_rfl) (by kernel_rfl) (by kernel_rfl) (fun _ _ _ h => h) (by rfl) ?hy7B1x (by assumption) ?_
                case hy7B1x => intro WW hSw; (try dsimp only at hSw); go_simp; try with_reducible rfl
                try simp only [Act.put, List.setIfInBounds_toArray, List.set_cons_zero, List.set_cons_succ]
                refine take_in (i := 8) (v := ?v8B1x) rfl (by kernel_rfl) (by kernel_rfl) (by kernel_rfl) (fun _ _ _ h => h) (by rfl) ?hy8B1x (by assumption) ?_
                case hy8B1x => intro WW hSw; (try dsimp only at hSw); go_simp; try with_reducible rfl
                try simp only [Act.put, List.setIfInBounds_toArray, List.set_cons_zero, List.set_cons_succ]
                refine take_in (i := 9) (v := ?v9B1x) rfl (by kernel_rfl) (by kernel_rfl) (by kernel_rfl) (fun _ _ _ h => h) (by rfl) ?hy9B1x (by assumption) ?_
                case hy9B1x => intro WW hSw; (try dsimp only at hSw); go_simp; try with_reducible rfl
                try simp only [Act.put, List.setIfInBounds_toArray, List.set_cons_zero, List.set_cons_succ]
                refine take_in (i := 10) (v := ?v10B1x) rfl (by kernel_rfl) (by kernel_rfl) (by kernel_rfl) (fun _ _ _ h => h) (by rfl) ?hy10B1x (by assumption) ?_
                case hy10B1x => intro WW hSw; (try dsimp only at hSw); go_simp; try with_reducible rfl
                try simp only [Act.put, List.setIfInBounds_toArray, List.set_cons_zero, List.set_cons_succ]
                refine take_in (i := 11) (v := ?v11B1x) rfl (by kernel_rfl) (by kernel_rfl) (by kernel_rfl) (fun _ _ _ h => h) (by rfl) ?hy11B1x (by assumption) ?_
                case hy11B1x => intro WW hSw; (try dsimp only at hSw); go_simp; try with_reducible rfl
                try simp only [Act.put, List.setIfInBounds_toArray, List.set_cons_zero, List.set_cons_succ]
                refine take_in (i := 12) (v := ?v12B1x) rfl (by kernel_rfl) (by kernel_rfl) (by kernel_rfl) (fun _ _ _ h => h) (by rfl) ?hy12B1x (by assumption) ?_
                case hy12B1x => intro WW hSw; (try dsimp only at hSw); go_simp; try with_reducible rfl
                try simp only [Act.put, List.setIfInBounds_toArray, List.set_cons_zero, List.set_cons_succ]
                refine take_in (i := 13) (v := ?v13B1x) rfl (by kernel_rfl) (by kernel_rfl) (by kernel_rfl) (fun _ _ _ h => h) (by rfl) ?hy13B1x (by assumption) ?_
                case hy13B1x => intro WW hSw; (try dsimp only at hSw); go_simp; try with_reducible rfl
                try simp only [Act.put, List.setIfInBounds_toArray, List.set_cons_zero, List.set_cons_succ]
                refine take_in (i := 14) (v := .bool true) rfl (by kernel_rfl) (by kernel_rfl) (by kernel_rfl) (fun _ _ _ h => h) (by rfl) ?hy14B1x (by assumption) ?_
                case hy14B1x => intro WW hSw; (try dsimp only at hSw); have hh := hvn; go_simp; try with_reducible rfl
                try simp only [Act.put, List.setIfInBounds_toArray, List.set_cons_zero, List.set_cons_succ]
                refine take_in (i := 15) (v := .bool true) rfl (by kernel_rfl) (by kernel_rfl) (by kernel_rfl) (fun _ _ _ h => h) (by rfl) ?hy15B1x (by assumption) ?_
                case hy15B1x => intro WW hSw; (try dsimp only at hSw); go_simp; try with_reducible rfl
                try simp only [Act.put, List.setIfInBounds_toArray, List.set_cons_zero, List.set_cons_succ]
                refine wpAnyH_done (by kernel_rfl) ?_ _
                go_upto_region 23 with (fail)
                refine wp_region_held_drew (S := (fun WW => WW.cell? (ad0.add k) = some (.slice (some adk) l.length ck) ∧ WW.cell? ⟨g, k, none⟩ = some (.int .i64 (p : Int)) ∧ WW.cell? (adk.add p) = some (.int .i64 v))) (by kernel_rfl) ?_ (fun hHeld => ?_)
                · exact ⟨hL, hA, hN⟩
                refine take_in (i := 0) (v := ?v0B1y) rfl (by kernel_rfl) (by kernel_rfl) (by kernel_rfl) (fun _ _ _ h => h) (by rfl) ?hy0B1y (by assumption) ?_
                case hy0B1y => intro WW hSw; (try dsimp only at hSw); go_simp; try with_reducible rfl
                try simp only [Act.put, List.setIfInBounds_toArray, List.set_cons_zero, List.set_cons_succ]
                refine take_in (i := 1) (v := ?v1B1y) rfl (by kernel_rfl) (by kernel_rfl) (by kernel_rfl) (fun _ _ _ h => h) (by rfl) ?hy1B1y (by assumption) ?_
                case hy1B1y => intro WW hSw; (try dsimp only at hSw); go_simp; try with_reducible rfl
                try simp only [Act.put, List.setIfInBounds_toArray, List.set_cons_zero, List.set_cons_succ]
                refine take_in (i := 2) (v := ?v2B1y) rfl (by kernel_rfl) (by kernel_rfl) (by kernel_rfl) (fun _ _ _ h => h) (by rfl) ?hy2B1y (by assumption) ?_
                case hy2B1y => intro WW hSw; (try dsimp only at hSw); go_simp; try with_reducible rfl
                try simp only [Act.put, List.setIfInBounds_toArray, List.set_cons_zero, List.set_cons_succ]
                refine take_in (i := 3) (v := ?v3B1y) rfl (by kernel_rfl) (by kernel_rfl) (by kernel_rfl) (fun _ _ _ h => h) (by rfl) ?hy3B1y (by assumption) ?_
                case hy3B1y => intro WW hSw; (try dsimp only at hSw); go_simp; try with_reducible rfl
                try simp only [Act.put, List.setIfInBounds_toArray, List.set_cons_zero, List.set_cons_succ]
                refine take_in (i := 4) (v := ?v4B1y) rfl (by kernel_rfl) (by kernel_rfl) (by kernel_rfl) (fun _ _ _ h => h) (by rfl) ?hy4B1y (by assumption) ?_
                case hy4B1y => intro WW hSw; (try dsimp only at hSw); go_simp; try with_reducible rfl
                try simp only [Act.put, List.setIfInBounds_toArray, List.set_cons_zero, List.set_cons_succ]
                refine take_in (i := 5) (v := ?v5B1y) rfl (by kernel_rfl) (by kernel_rfl) (by kernel_rfl) (fun _ _ _ h => h) (by rfl) ?hy5B1y (by assumption) ?_
                case hy5B1y => intro WW hSw; (try dsimp only at hSw); go_simp; try with_reducible rfl
                try simp only [Act.put, List.setIfInBounds_toArray, List.set_cons_zero, List.set_cons_succ]
                refine take_in (i := 6) (v := ?v6B1y) rfl (by kernel_rfl) (by kernel_rfl) (by kernel_rfl) (fun _ _ _ h => h) (by rfl) ?hy6B1y (by assumption) ?_
                case hy6B1y => intro WW hSw; (try dsimp only at hSw); go_simp; try with_reducible rfl
                try simp only [Act.put, List.setIfInBounds_toArray, List.set_cons_zero, List.set_cons_succ]
                refine take_in (i := 7) (v := ?v7B1y) rfl (by kernel_rfl) (by kernel_rfl) (by kernel_rfl) (fun _ _ _ h => h) (by rfl) ?hy7B1y (by assumption) ?_
                case hy7B1y => intro WW hSw; (try dsimp only at hSw); go_simp; try with_reducible rfl
                try simp only [Act.put, List.setIfInBounds_toArray, List.set_cons_zero, List.set_cons_succ]
                refine take_in (i := 8) (v := ?v8B1y) rfl (by kernel_rfl) (by kernel_rfl) (by kernel_rfl) (fun _ _ _ h => h) (by rfl) ?hy8B1y (by assumption) ?_
                case hy8B1y => intro WW hSw; (try dsimp only at hSw); go_simp; try with_reducible rfl
                try simp only [Act.put, List.setIfInBounds_toArray, List.set_cons_zero, List.set_cons_succ]
                refine take_in (i := 9) (v := ?v9B1y) rfl (by kernel_rfl) (by kernel_rfl) (by kernel_rfl) (fun _ _ _ h => h) (by rfl) ?hy9B1y (by assumption) ?_
                case hy9B1y => intro WW hSw; (try dsimp only at hSw); go_simp; try with_reducible rfl
                try simp only [Act.put, List.setIfInBounds_toArray, List.set_cons_zero, List.set_cons_succ]
                refine take_in (i := 10) (v := ?v10B1y) rfl (by kernel_rfl) (by kernel_rfl) (by kernel_rfl) (fun _ _ _ h => h) (by rfl) ?hy10B1y (by assumption) ?_
                case hy10B1y => intro WW hSw; (try dsimp only at hSw); go_simp; try with_reducible rfl
                try simp only [Act.put, List.setIfInBounds_toArray, List.set_cons_zero, List.set_cons_succ]
                refine take_in (i := 11) (v := ?v11B1y) rfl (by kernel_rfl) (by kernel_rfl) (by kernel_rfl) (fun _ _ _ h => h) (by rfl) ?hy11B1y (by assumption) ?_
                case hy11B1y => intro WW hSw; (try dsimp only at hSw); go_simp; try with_reducible rfl
                try simp only [Act.put, List.setIfInBounds_toArray, List.set_cons_zero, List.set_cons_succ]
                refine wpAnyH_done (by kernel_rfl) ?_ _
                have hstep : 1 = (if same = 0 ∨ v ≠ n then 1 else same + 1) := by
                  rw [if_pos (.inr hvne)]
                have hsb : ((1 : Int) == (m : Int)) = true := by rw [beq_iff_eq]; have := HT.out; omega
                have hnext := meet_tell hup HI.out.1 v HV.out (by rw [← hstep]; have := HT.out; have := HLM.out; omega)
                have hmu := mu_tell HI.out.1 v HV.out 0 v (out ++ [v])
                have hol : out.length < 17592186044416 := by
                  obtain ⟨r, hc, _, _⟩ := hnext.rest
                  have h1 := common_len ls hne
                  have h2 := HNUM0.out
                  rw [hc] at h1
                  simp only [List.length_append, List.length_singleton] at h1
                  omega
                have HNX := Aside0.mk (And.intro hnext hmu)
                clear hstep hnext hmu
                obtain ⟨Wd, hWd⟩ : ∃ Wd, Wd = wz.drew.drew.drew := ⟨_, rfl⟩
                rw [← hWd]
                have hRd : RowA Wd g (ats.set k p) := by rw [hWd]; exact hR
                have hod : Wd.ownsRow (g + 1) 3 1 u7 out.length (numCells out) := by rw [hWd]; exact ho
                have HBd : Below w.heap.size w Wd := by rw [hWd]; exact ⟨HB.os, HB.tape, HB.output, HB.size, HB.block⟩
                clear hR ho HB hA hL hN hWd
                go_wp2_with (at_builtin; go_loud (refine append_num rfl (.tmp 111) (.tmp 113) rfl (g + 1) _ _ _ rfl hod v rfl hol (by have := hRd.lt; exact this) ?_))
                intro v9 w9 ho9 hfr9 hb9
                have hR9 : RowA w9 g (ats.set k p) := (hfr9 g (Nat.lt_succ_self g) hRd.lt).trans hRd
                have HB9 : Below w.heap.size w w9 := HBd.trans (hb9.mono hgw)
                have hA9 := hR9.cell k hkset
                have hf9 := hR9.free k
                rw [hgs] at hA9
                have hp1 : (p : Int) + 1 = (p1 : Int) := by have := HP1.out; omega
                clear hod hRd HBd hfr9 hb9
                go_wp2
                go_roundg (gk - 1)
                case measure => have := HI.out.2; omega
                case rel =>
                  refine ⟨kn, ats.set k (p + 1), 0, v, out ++ [v], rfl, rfl, by first | rfl | exact congrArg (Value.int .i64) hmod, ?_, ?_, ?_, ⟨?_, ?_⟩⟩
                  · have h := hR9.put k p1
                    rw [List.set_set, HP1.out] at h
                    have e : ((p1 : Nat) : Int) = ((p + 1 : Nat) : Int) := by rw [HP1.out]
                    rw [e]
                    exact h
                  · have e : numCells (out ++ [v]) = numCells out ++ [.int .i64 v] := by simp [numCells]
                    rw [List.length_append, e]
                    exact own_off ho9 (Nat.lt_succ_self g)
                  · exact below_set HB9 (by exact hgw0) _
                  · have h := HNX.out.1
                    rw [HP.out] at h
                    rw [HKN.out]; exact h
                  · have h := HNX.out.2
                    rw [HP.out] at h
                    have := HI.out.2; omega
              · have HT := Aside0.mk ht
                clear ht
                go_upto_region 22 with (fail)
                refine wp_region_held_drew (S := (fun WW => WW.cell? (ad0.add k) = some (.slice (some adk) l.length ck) ∧ WW.cell? ⟨g, k, none⟩ = some (.int .i64 (p : Int)) ∧ WW.cell? (adk.add p) = some (.int .i64 v))) (by kernel_rfl) ?_ (fun hHeld => ?_)
                · exact ⟨hL, hA, hN⟩
                refine take_in (i := 0) (v := ?v0B2x) rfl (by kernel_rfl) (by kernel_rfl) (by kernel_rfl) (fun _ _ _ h => h) (by rfl) ?hy0B2x (by assumption) ?_
                case hy0B2x => intro WW hSw; (try dsimp only at hSw); go_simp; try with_reducible rfl
                try simp only [Act.put, List.setIfInBounds_toArray, List.set_cons_zero, List.set_cons_succ]
                refine take_in (i := 1) (v := .bool false) rfl (by kernel_rfl) (by kernel_rfl) (by kernel_rfl) (fun _ _ _ h => h) (by rfl) ?hy1B2x (by assumption) ?_
                case hy1B2x => intro WW hSw; (try dsimp only at hSw); have hh := hs0b; go_simp; try with_reducible rfl
                try simp only [Act.put, List.setIfInBounds_toArray, List.set_cons_zero, List.set_cons_succ]
                refine take_in (i := 2) (v := .bool false) rfl (by kernel_rfl) (by kernel_rfl) (by kernel_rfl) (fun _ _ _ h => h) (by rfl) ?hy2B2x (by assumption) ?_
                case hy2B2x => intro WW hSw; (try dsimp only at hSw); go_simp; try with_reducible rfl
                try simp only [Act.put, List.setIfInBounds_toArray, List.set_cons_zero, List.set_cons_succ]
                refine take_in (i := 3) (v := ?v3B2x) rfl (by kernel_rfl) (by kernel_rfl) (by kernel_rfl) (fun _ _ _ h => h) (by rfl) ?hy3B2x (by assumption) ?_
                case hy3B2x => intro WW hSw; (try dsimp only at hSw); go_simp; try with_reducible rfl
                try simp only [Act.put, List.setIfInBounds_toArray, List.set_cons_zero, List.set_cons_succ]
                refine take_in (i := 4) (v := ?v4B2x) rfl (by kernel_rfl) (by kernel_rfl) (by kernel_rfl) (fun _ _ _ h => h) (by rfl) ?hy4B2x (by assumption) ?_
                case hy4B2x => intro WW hSw; (try dsimp only at hSw); go_simp; try with_reducible rfl
                try simp only [Act.put, List.setIfInBounds_toArray, List.set_cons_zero, List.set_cons_succ]
                refine take_in (i := 5) (v := ?v5B2x) rfl (by kernel_rfl) (by kernel_rfl) (by kernel_rfl) (fun _ _ _ h => h) (by rfl) ?hy5B2x (by assumption) ?_
                case hy5B2x => intro WW hSw; (try dsimp only at hSw); go_simp; try with_reducible rfl
                try simp only [Act.put, List.setIfInBounds_toArray, List.set_cons_zero, List.set_cons_succ]
                refine take_in (i := 6) (v := ?v6B2x) rfl (by kernel_rfl) (by kernel_rfl) (by kernel_rfl) (fun _ _ _ h => h) (by rfl) ?hy6B2x (by assumption) ?_
                case hy6B2x => intro WW hSw; (try dsimp only at hSw); go_simp; try with_reducible rfl
                try simp only [Act.put, List.setIfInBounds_toArray, List.set_cons_zero, List.set_cons_succ]
                refine take_in (i := 7) (v := ?v7B2x) rfl (by kernel_rfl) (by kernel_rfl) (by kernel_rfl) (fun _ _ _ h => h) (by rfl) ?hy7B2x (by assumption) ?_
                case hy7B2x => intro WW hSw; (try dsimp only at hSw); go_simp; try with_reducible rfl
                try simp only [Act.put, List.setIfInBounds_toArray, List.set_cons_zero, List.set_cons_succ]
                refine take_in (i := 8) (v := ?v8B2x) rfl (by kernel_rfl) (by kernel_rfl) (by kernel_rfl) (fun _ _ _ h => h) (by rfl) ?hy8B2x (by assumption) ?_
                case hy8B2x => intro WW hSw; (try dsimp only at hSw); go_simp; try with_reducible rfl
                try simp only [Act.put, List.setIfInBounds_toArray, List.set_cons_zero, List.set_cons_succ]
                refine take_in (i := 9) (v := ?v9B2x) rfl (by kernel_rfl) (by kernel_rfl) (by kernel_rfl) (fun _ _ _ h => h) (by rfl) ?hy9B2x (by assumption) ?_
                case hy9B2x => intro WW hSw; (try dsimp only at hSw); go_simp; try with_reducible rfl
                try simp only [Act.put, List.setIfInBounds_toArray, List.set_cons_zero, List.set_cons_succ]
                refine take_in (i := 10) (v := ?v10B2x) rfl (by kernel_rfl) (by kernel_rfl) (by kernel_rfl) (fun _ _ _ h => h) (by rfl) ?hy10B2x (by assumption) ?_
                case hy10B2x => intro WW hSw; (try dsimp only at hSw); go_simp; try with_reducible rfl
                try simp only [Act.put, List.setIfInBounds_toArray, List.set_cons_zero, List.set_cons_succ]
                refine take_in (i := 11) (v := ?v11B2x) rfl (by kernel_rfl) (by kernel_rfl) (by kernel_rfl) (fun _ _ _ h => h) (by rfl) ?hy11B2x (by assumption) ?_
                case hy11B2x => intro WW hSw; (try dsimp only at hSw); go_simp; try with_reducible rfl
                try simp only [Act.put, List.setIfInBounds_toArray, List.set_cons_zero, List.set_cons_succ]
                refine take_in (i := 12) (v := ?v12B2x) rfl (by kernel_rfl) (by kernel_rfl) (by kernel_rfl) (fun _ _ _ h => h) (by rfl) ?hy12B2x (by assumption) ?_
                case hy12B2x => intro WW hSw; (try dsimp only at hSw); go_simp; try with_reducible rfl
                try simp only [Act.put, List.setIfInBounds_toArray, List.set_cons_zero, List.set_cons_succ]
                refine take_in (i := 13) (v := ?v13B2x) rfl (by kernel_rfl) (by kernel_rfl) (by kernel_rfl) (fun _ _ _ h => h) (by rfl) ?hy13B2x (by assumption) ?_
                case hy13B2x => intro WW hSw; (try dsimp only at hSw); go_simp; try with_reducible rfl
                try simp only [Act.put, List.setIfInBounds_toArray, List.set_cons_zero, List.set_cons_succ]
                refine take_in (i := 14) (v := .bool true) rfl (by kernel_rfl) (by kernel_rfl) (by kernel_rfl) (fun _ _ _ h => h) (by rfl) ?hy14B2x (by assumption) ?_
                case hy14B2x => intro WW hSw; (try dsimp only at hSw); have hh := hvn; go_simp; try with_reducible rfl
                try simp only [Act.put, List.setIfInBounds_toArray, List.set_cons_zero, List.set_cons_succ]
                refine take_in (i := 15) (v := .bool true) rfl (by kernel_rfl) (by kernel_rfl) (by kernel_rfl) (fun _ _ _ h => h) (by rfl) ?hy15B2x (by assumption) ?_
                case hy15B2x => intro WW hSw; (try dsimp only at hSw); go_simp; try with_reducible rfl
                try simp only [Act.put, List.setIfInBounds_toArray, List.set_cons_zero, List.set_cons_succ]
                refine wpAnyH_done (by kernel_rfl) ?_ _
                go_upto_region 23 with (fail)
                refine wp_region_held_drew (S := (fun WW => WW.cell? (ad0.add k) = some (.slice (some adk) l.length ck) ∧ WW.cell? ⟨g, k, none⟩ = some (.int .i64 (p : Int)) ∧ WW.cell? (adk.add p) = some (.int .i64 v))) (by kernel_rfl) ?_ (fun hHeld => ?_)
                · exact ⟨hL, hA, hN⟩
                refine take_in (i := 0) (v := ?v0B2y) rfl (by kernel_rfl) (by kernel_rfl) (by kernel_rfl) (fun _ _ _ h => h) (by rfl) ?hy0B2y (by assumption) ?_
                case hy0B2y => intro WW hSw; (try dsimp only at hSw); go_simp; try with_reducible rfl
                try simp only [Act.put, List.setIfInBounds_toArray, List.set_cons_zero, List.set_cons_succ]
                refine take_in (i := 1) (v := ?v1B2y) rfl (by kernel_rfl) (by kernel_rfl) (by kernel_rfl) (fun _ _ _ h => h) (by rfl) ?hy1B2y (by assumption) ?_
                case hy1B2y => intro WW hSw; (try dsimp only at hSw); go_simp; try with_reducible rfl
                try simp only [Act.put, List.setIfInBounds_toArray, List.set_cons_zero, List.set_cons_succ]
                refine take_in (i := 2) (v := ?v2B2y) rfl (by kernel_rfl) (by kernel_rfl) (by kernel_rfl) (fun _ _ _ h => h) (by rfl) ?hy2B2y (by assumption) ?_
                case hy2B2y => intro WW hSw; (try dsimp only at hSw); go_simp; try with_reducible rfl
                try simp only [Act.put, List.setIfInBounds_toArray, List.set_cons_zero, List.set_cons_succ]
                refine take_in (i := 3) (v := ?v3B2y) rfl (by kernel_rfl) (by kernel_rfl) (by kernel_rfl) (fun _ _ _ h => h) (by rfl) ?hy3B2y (by assumption) ?_
                case hy3B2y => intro WW hSw; (try dsimp only at hSw); go_simp; try with_reducible rfl
                try simp only [Act.put, List.setIfInBounds_toArray, List.set_cons_zero, List.set_cons_succ]
                refine take_in (i := 4) (v := ?v4B2y) rfl (by kernel_rfl) (by kernel_rfl) (by kernel_rfl) (fun _ _ _ h => h) (by rfl) ?hy4B2y (by assumption) ?_
                case hy4B2y => intro WW hSw; (try dsimp only at hSw); go_simp; try with_reducible rfl
                try simp only [Act.put, List.setIfInBounds_toArray, List.set_cons_zero, List.set_cons_succ]
                refine take_in (i := 5) (v := ?v5B2y) rfl (by kernel_rfl) (by kernel_rfl) (by kernel_rfl) (fun _ _ _ h => h) (by rfl) ?hy5B2y (by assumption) ?_
                case hy5B2y => intro WW hSw; (try dsimp only at hSw); go_simp; try with_reducible rfl
                try simp only [Act.put, List.setIfInBounds_toArray, List.set_cons_zero, List.set_cons_succ]
                refine take_in (i := 6) (v := ?v6B2y) rfl (by kernel_rfl) (by kernel_rfl) (by kernel_rfl) (fun _ _ _ h => h) (by rfl) ?hy6B2y (by assumption) ?_
                case hy6B2y => intro WW hSw; (try dsimp only at hSw); go_simp; try with_reducible rfl
                try simp only [Act.put, List.setIfInBounds_toArray, List.set_cons_zero, List.set_cons_succ]
                refine take_in (i := 7) (v := ?v7B2y) rfl (by kernel_rfl) (by kernel_rfl) (by kernel_rfl) (fun _ _ _ h => h) (by rfl) ?hy7B2y (by assumption) ?_
                case hy7B2y => intro WW hSw; (try dsimp only at hSw); go_simp; try with_reducible rfl
                try simp only [Act.put, List.setIfInBounds_toArray, List.set_cons_zero, List.set_cons_succ]
                refine take_in (i := 8) (v := ?v8B2y) rfl (by kernel_rfl) (by kernel_rfl) (by kernel_rfl) (fun _ _ _ h => h) (by rfl) ?hy8B2y (by assumption) ?_
                case hy8B2y => intro WW hSw; (try dsimp only at hSw); go_simp; try with_reducible rfl
                try simp only [Act.put, List.setIfInBounds_toArray, List.set_cons_zero, List.set_cons_succ]
                refine take_in (i := 9) (v := ?v9B2y) rfl (by kernel_rfl) (by kernel_rfl) (by kernel_rfl) (fun _ _ _ h => h) (by rfl) ?hy9B2y (by assumption) ?_
                case hy9B2y => intro WW hSw; (try dsimp only at hSw); go_simp; try with_reducible rfl
                try simp only [Act.put, List.setIfInBounds_toArray, List.set_cons_zero, List.set_cons_succ]
                refine take_in (i := 10) (v := ?v10B2y) rfl (by kernel_rfl) (by kernel_rfl) (by kernel_rfl) (fun _ _ _ h => h) (by rfl) ?hy10B2y (by assumption) ?_
                case hy10B2y => intro WW hSw; (try dsimp only at hSw); go_simp; try with_reducible rfl
                try simp only [Act.put, List.setIfInBounds_toArray, List.set_cons_zero, List.set_cons_succ]
                refine take_in (i := 11) (v := ?v11B2y) rfl (by kernel_rfl) (by kernel_rfl) (by kernel_rfl) (fun _ _ _ h => h) (by rfl) ?hy11B2y (by assumption) ?_
                case hy11B2y => intro WW hSw; (try dsimp only at hSw); go_simp; try with_reducible rfl
                try simp only [Act.put, List.setIfInBounds_toArray, List.set_cons_zero, List.set_cons_succ]
                refine wpAnyH_done (by kernel_rfl) ?_ _
                have hstep : 1 = (if same = 0 ∨ v ≠ n then 1 else same + 1) := by
                  rw [if_pos (.inr hvne)]
                have hsb : ((1 : Int) == (m : Int)) = false := by rw [beq_eq_false_iff_ne]; have := HT.out; omega
                have hnext := meet_step hup HI.out.1 v HV.out _ hstep (by have := HT.out; have := HLM.out; omega)
                have hmu := mu_step hup HI.out.1 v HV.out _ hstep (by have := HT.out; have := HLM.out; omega)
                have HNX := Aside0.mk (And.intro hnext hmu)
                clear hstep hnext hmu
                obtain ⟨Wd, hWd⟩ : ∃ Wd, Wd = wz.drew.drew.drew := ⟨_, rfl⟩
                rw [← hWd]
                have hRd : RowA Wd g (ats.set k p) := by rw [hWd]; exact hR
                have hod : Wd.ownsRow (g + 1) 3 1 u7 out.length (numCells out) := by rw [hWd]; exact ho
                have HBd : Below w.heap.size w Wd := by rw [hWd]; exact ⟨HB.os, HB.tape, HB.output, HB.size, HB.block⟩
                clear hR ho HB hA hL hN hWd
                go_wp2
                go_roundg (gk - 1)
                case measure => have := HI.out.2; omega
                case rel =>
                  refine ⟨kn, ats.set k p, 1, v, out, by go_num, rfl, by first | rfl | exact congrArg (Value.int .i64) hmod, hRd, hod, HBd, ⟨?_, ?_⟩⟩
                  · have h := HNX.out.1
                    rw [HP.out] at h
                    rw [HKN.out]; exact h
                  · have h := HNX.out.2
                    rw [HP.out] at h
                    have := HI.out.2; omega
            · have hveq : v = n := by simpa using hvne
              subst hveq
              have hvn : (v != v) = false := by simp
              clear hvne
              obtain ⟨same2, hs2⟩ : ∃ s2, s2 = same + 1 := ⟨_, rfl⟩
              have HS2 := Aside0.mk hs2
              clear hs2
              by_cases ht : same + 1 = m
              · have HT := Aside0.mk ht
                clear ht
                go_upto_region 22 with (fail)
                refine wp_region_held_drew (S := (fun WW => WW.cell? (ad0.add k) = some (.slice (some adk) l.length ck) ∧ WW.cell? ⟨g, k, none⟩ = some (.int .i64 (p : Int)) ∧ WW.cell? (adk.add p) = some (.int .i64 v))) (by kernel_rfl) ?_ (fun hHeld => ?_)
                · exact ⟨hL, hA, hN⟩
                refine take_in (i := 0) (v := ?v0B3x) rfl (by kernel_rfl) (by kernel_rfl) (by kernel_rfl) (fun _ _ _ h => h) (by rfl) ?hy0B3x (by assumption) ?_
                case hy0B3x => intro WW hSw; (try dsimp only at hSw); go_simp; try with_reducible rfl
                try simp only [Act.put, List.setIfInBounds_toArray, List.set_cons_zero, List.set_cons_succ]
                refine take_in (i := 1) (v := .bool false) rfl (by kernel_rfl) (by kernel_rfl) (by kernel_rfl) (fun _ _ _ h => h) (by rfl) ?hy1B3x (by assumption) ?_
                case hy1B3x => intro WW hSw; (try dsimp only at hSw); have hh := hs0b; go_simp; try with_reducible rfl
                try simp only [Act.put, List.setIfInBounds_toArray, List.set_cons_zero, List.set_cons_succ]
                refine take_in (i := 2) (v := .bool false) rfl (by kernel_rfl) (by kernel_rfl) (by kernel_rfl) (fun _ _ _ h => h) (by rfl) ?hy2B3x (by assumption) ?_
                case hy2B3x => intro WW hSw; (try dsimp only at hSw); go_simp; try with_reducible rfl
                try simp only [Act.put, List.setIfInBounds_toArray, List.set_cons_zero, List.set_cons_succ]
                refine take_in (i := 3) (v := ?v3B3x) rfl (by kernel_rfl) (by kernel_rfl) (by kernel_rfl) (fun _ _ _ h => h) (by rfl) ?hy3B3x (by assumption) ?_
                case hy3B3x => intro WW hSw; (try dsimp only at hSw); go_simp; try with_reducible rfl
                try simp only [Act.put, List.setIfInBounds_toArray, List.set_cons_zero, List.set_cons_succ]
                refine take_in (i := 4) (v := ?v4B3x) rfl (by kernel_rfl) (by kernel_rfl) (by kernel_rfl) (fun _ _ _ h => h) (by rfl) ?hy4B3x (by assumption) ?_
                case hy4B3x => intro WW hSw; (try dsimp only at hSw); go_simp; try with_reducible rfl
                try simp only [Act.put, List.setIfInBounds_toArray, List.set_cons_zero, List.set_cons_succ]
                refine take_in (i := 5) (v := ?v5B3x) rfl (by kernel_rfl) (by kernel_rfl) (by kernel_rfl) (fun _ _ _ h => h) (by rfl) ?hy5B3x (by assumption) ?_
                case hy5B3x => intro WW hSw; (try dsimp only at hSw); go_simp; try with_reducible rfl
                try simp only [Act.put, List.setIfInBounds_toArray, List.set_cons_zero, List.set_cons_succ]
                refine take_in (i := 6) (v := ?v6B3x) rfl (by kernel_rfl) (by kernel_rfl) (by kernel_rfl) (fun _ _ _ h => h) (by rfl) ?hy6B3x (by assumption) ?_
                case hy6B3x => intro WW hSw; (try dsimp only at hSw); go_simp; try with_reducible rfl
                try simp only [Act.put, List.setIfInBounds_toArray, List.set_cons_zero, List.set_cons_succ]
                refine take_in (i := 7) (v := ?v7B3x) rfl (by kernel_rfl) (by kernel_rfl) (by kernel_rfl) (fun _ _ _ h => h) (by rfl) ?hy7B3x (by assumption) ?_
                case hy7B3x => intro WW hSw; (try dsimp only at hSw); go_simp; try with_reducible rfl
                try simp only [Act.put, List.setIfInBounds_toArray, List.set_cons_zero, List.set_cons_succ]
                refine take_in (i := 8) (v := ?v8B3x) rfl (by kernel_rfl) (by kernel_rfl) (by kernel_rfl) (fun _ _ _ h => h) (by rfl) ?hy8B3x (by assumption) ?_
                case hy8B3x => intro WW hSw; (try dsimp only at hSw); go_simp; try with_reducible rfl
                try simp only [Act.put, List.setIfInBounds_toArray, List.set_cons_zero, List.set_cons_succ]
                refine take_in (i := 9) (v := ?v9B3x) rfl (by kernel_rfl) (by kernel_rfl) (by kernel_rfl) (fun _ _ _ h => h) (by rfl) ?hy9B3x (by assumption) ?_
                case hy9B3x => intro WW hSw; (try dsimp only at hSw); go_simp; try with_reducible rfl
                try simp only [Act.put, List.setIfInBounds_toArray, List.set_cons_zero, List.set_cons_succ]
                refine take_in (i := 10) (v := ?v10B3x) rfl (by kernel_rfl) (by kernel_rfl) (by kernel_rfl) (fun _ _ _ h => h) (by rfl) ?hy10B3x (by assumption) ?_
                case hy10B3x => intro WW hSw; (try dsimp only at hSw); go_simp; try with_reducible rfl
                try simp only [Act.put, List.setIfInBounds_toArray, List.set_cons_zero, List.set_cons_succ]
                refine take_in (i := 11) (v := ?v11B3x) rfl (by kernel_rfl) (by kernel_rfl) (by kernel_rfl) (fun _ _ _ h => h) (by rfl) ?hy11B3x (by assumption) ?_
                case hy11B3x => intro WW hSw; (try dsimp only at hSw); go_simp; try with_reducible rfl
                try simp only [Act.put, List.setIfInBounds_toArray, List.set_cons_zero, List.set_cons_succ]
                refine take_in (i := 12) (v := ?v12B3x) rfl (by kernel_rfl) (by kernel_rfl) (by kernel_rfl) (fun _ _ _ h => h) (by rfl) ?hy12B3x (by assumption) ?_
                case hy12B3x => intro WW hSw; (try dsimp only at hSw); go_simp; try with_reducible rfl
                try simp only [Act.put, List.setIfInBounds_toArray, List.set_cons_zero, List.set_cons_succ]
                refine take_in (i := 13) (v := ?v13B3x) rfl (by kernel_rfl) (by kernel_rfl) (by kernel_rfl) (fun _ _ _ h => h) (by rfl) ?hy13B3x (by assumption) ?_
                case hy13B3x => intro WW hSw; (try dsimp only at hSw); go_simp; try with_reducible rfl
                try simp only [Act.put, List.setIfInBounds_toArray, List.set_cons_zero, List.set_cons_succ]
                refine take_in (i := 14) (v := .bool false) rfl (by kernel_rfl) (by kernel_rfl) (by kernel_rfl) (fun _ _ _ h => h) (by rfl) ?hy14B3x (by assumption) ?_
                case hy14B3x => intro WW hSw; (try dsimp only at hSw); have hh := hvn; go_simp; try with_reducible rfl
                try simp only [Act.put, List.setIfInBounds_toArray, List.set_cons_zero, List.set_cons_succ]
                refine take_in (i := 15) (v := .bool false) rfl (by kernel_rfl) (by kernel_rfl) (by kernel_rfl) (fun _ _ _ h => h) (by rfl) ?hy15B3x (by assumption) ?_
                case hy15B3x => intro WW hSw; (try dsimp only at hSw); go_simp; try with_reducible rfl
                try simp only [Act.put, List.setIfInBounds_toArray, List.set_cons_zero, List.set_cons_succ]
                refine wpAnyH_done (by kernel_rfl) ?_ _
                have hstep : same + 1 = (if same = 0 ∨ v ≠ v then 1 else same + 1) := by
                  rw [if_neg (fun h => h.elim (fun e => HS0.out e) (fun e => e rfl))]
                have hss : (same : Int) + 1 = (same2 : Int) := by have := HS2.out; omega
                have hsb : ((same2 : Int) == (m : Int)) = true := by rw [beq_iff_eq]; have := HS2.out; have := HT.out; omega
                have hnext := meet_tell hup HI.out.1 v HV.out (by rw [← hstep]; have := HT.out; have := HLM.out; omega)
                have hmu := mu_tell HI.out.1 v HV.out 0 v (out ++ [v])
                have hol : out.length < 17592186044416 := by
                  obtain ⟨r, hc, _, _⟩ := hnext.rest
                  have h1 := common_len ls hne
                  have h2 := HNUM0.out
                  rw [hc] at h1
                  simp only [List.length_append, List.length_singleton] at h1
                  omega
                have HNX := Aside0.mk (And.intro hnext hmu)
                clear hstep hnext hmu
                obtain ⟨Wd, hWd⟩ : ∃ Wd, Wd = wz.drew.drew := ⟨_, rfl⟩
                rw [← hWd]
                have hRd : RowA Wd g (ats.set k p) := by rw [hWd]; exact hR
                have hod : Wd.ownsRow (g + 1) 3 1 u7 out.length (numCells out) := by rw [hWd]; exact ho
                have HBd : Below w.heap.size w Wd := by rw [hWd]; exact ⟨HB.os, HB.tape, HB.output, HB.size, HB.block⟩
                clear hR ho HB hA hL hN hWd
                go_wp2_with (at_builtin; go_loud (refine append_num rfl (.tmp 111) (.tmp 113) rfl (g + 1) _ _ _ rfl hod v rfl hol (by have := hRd.lt; exact this) ?_))
                intro v9 w9 ho9 hfr9 hb9
                have hR9 : RowA w9 g (ats.set k p) := (hfr9 g (Nat.lt_succ_self g) hRd.lt).trans hRd
                have HB9 : Below w.heap.size w w9 := HBd.trans (hb9.mono hgw)
                have hA9 := hR9.cell k hkset
                have hf9 := hR9.free k
                rw [hgs] at hA9
                have hp1 : (p : Int) + 1 = (p1 : Int) := by have := HP1.out; omega
                clear hod hRd HBd hfr9 hb9
                go_wp2
                go_roundg (gk - 1)
                case measure => have := HI.out.2; omega
                case rel =>
                  refine ⟨kn, ats.set k (p + 1), 0, v, out ++ [v], rfl, rfl, by first | rfl | exact congrArg (Value.int .i64) hmod, ?_, ?_, ?_, ⟨?_, ?_⟩⟩
                  · have h := hR9.put k p1
                    rw [List.set_set, HP1.out] at h
                    have e : ((p1 : Nat) : Int) = ((p + 1 : Nat) : Int) := by rw [HP1.out]
                    rw [e]
                    exact h
                  · have e : numCells (out ++ [v]) = numCells out ++ [.int .i64 v] := by simp [numCells]
                    rw [List.length_append, e]
                    exact own_off ho9 (Nat.lt_succ_self g)
                  · exact below_set HB9 (by exact hgw0) _
                  · have h := HNX.out.1
                    rw [HP.out] at h
                    rw [HKN.out]; exact h
                  · have h := HNX.out.2
                    rw [HP.out] at h
                    have := HI.out.2; omega
              · have HT := Aside0.mk ht
                clear ht
                go_upto_region 22 with (fail)
                refine wp_region_held_drew (S := (fun WW => WW.cell? (ad0.add k) = some (.slice (some adk) l.length ck) ∧ WW.cell? ⟨g, k, none⟩ = some (.int .i64 (p : Int)) ∧ WW.cell? (adk.add p) = some (.int .i64 v))) (by kernel_rfl) ?_ (fun hHeld => ?_)
                · exact ⟨hL, hA, hN⟩
                refine take_in (i := 0) (v := ?v0B4x) rfl (by kernel_rfl) (by kernel_rfl) (by kernel_rfl) (fun _ _ _ h => h) (by rfl) ?hy0B4x (by assumption) ?_
                case hy0B4x => intro WW hSw; (try dsimp only at hSw); go_simp; try with_reducible rfl
                try simp only [Act.put, List.setIfInBounds_toArray, List.set_cons_zero, List.set_cons_succ]
                refine take_in (i := 1) (v := .bool false) rfl (by kernel_rfl) (by kernel_rfl) (by kernel_rfl) (fun _ _ _ h => h) (by rfl) ?hy1B4x (by assumption) ?_
                case hy1B4x => intro WW hSw; (try dsimp only at hSw); have hh := hs0b; go_simp; try with_reducible rfl
                try simp only [Act.put, List.setIfInBounds_toArray, List.set_cons_zero, List.set_cons_succ]
                refine take_in (i := 2) (v := .bool false) rfl (by kernel_rfl) (by kernel_rfl) (by kernel_rfl) (fun _ _ _ h => h) (by rfl) ?hy2B4x (by assumption) ?_
                case hy2B4x => intro WW hSw; (try dsimp only at hSw); go_simp; try with_reducible rfl
                try simp only [Act.put, List.setIfInBounds_toArray, List.set_cons_zero, List.set_cons_succ]
                refine take_in (i := 3) (v := ?v3B4x) rfl (by kernel_rfl) (by kernel_rfl) (by kernel_rfl) (fun _ _ _ h => h) (by rfl) ?hy3B4x (by assumption) ?_
                case hy3B4x => intro WW hSw; (try dsimp only at hSw); go_simp; try with_reducible rfl
                try simp only [Act.put, List.setIfInBounds_toArray, List.set_cons_zero, List.set_cons_succ]
                refine take_in (i := 4) (v := ?v4B4x) rfl (by kernel_rfl) (by kernel_rfl) (by kernel_rfl) (fun _ _ _ h => h) (by rfl) ?hy4B4x (by assumption) ?_
                case hy4B4x => intro WW hSw; (try dsimp only at hSw); go_simp; try with_reducible rfl
                try simp only [Act.put, List.setIfInBounds_toArray, List.set_cons_zero, List.set_cons_succ]
                refine take_in (i := 5) (v := ?v5B4x) rfl (by kernel_rfl) (by kernel_rfl) (by kernel_rfl) (fun _ _ _ h => h) (by rfl) ?hy5B4x (by assumption) ?_
                case hy5B4x => intro WW hSw; (try dsimp only at hSw); go_simp; try with_reducible rfl
                try simp only [Act.put, List.setIfInBounds_toArray, List.set_cons_zero, List.set_cons_succ]
                refine take_in (i := 6) (v := ?v6B4x) rfl (by kernel_rfl) (by kernel_rfl) (by kernel_rfl) (fun _ _ _ h => h) (by rfl) ?hy6B4x (by assumption) ?_
                case hy6B4x => intro WW hSw; (try dsimp only at hSw); go_simp; try with_reducible rfl
                try simp only [Act.put, List.setIfInBounds_toArray, List.set_cons_zero, List.set_cons_succ]
                refine take_in (i := 7) (v := ?v7B4x) rfl (by kernel_rfl) (by kernel_rfl) (by kernel_rfl) (fun _ _ _ h => h) (by rfl) ?hy7B4x (by assumption) ?_
                case hy7B4x => intro WW hSw; (try dsimp only at hSw); go_simp; try with_reducible rfl
                try simp only [Act.put, List.setIfInBounds_toArray, List.set_cons_zero, List.set_cons_succ]
                refine take_in (i := 8) (v := ?v8B4x) rfl (by kernel_rfl) (by kernel_rfl) (by kernel_rfl) (fun _ _ _ h => h) (by rfl) ?hy8B4x (by assumption) ?_
                case hy8B4x => intro WW hSw; (try dsimp only at hSw); go_simp; try with_reducible rfl
                try simp only [Act.put, List.setIfInBounds_toArray, List.set_cons_zero, List.set_cons_succ]
                refine take_in (i := 9) (v := ?v9B4x) rfl (by kernel_rfl) (by kernel_rfl) (by kernel_rfl) (fun _ _ _ h => h) (by rfl) ?hy9B4x (by assumption) ?_
                case hy9B4x => intro WW hSw; (try dsimp only at hSw); go_simp; try with_reducible rfl
                try simp only [Act.put, List.setIfInBounds_toArray, List.set_cons_zero, List.set_cons_succ]
                refine take_in (i := 10) (v := ?v10B4x) rfl (by kernel_rfl) (by kernel_rfl) (by kernel_rfl) (fun _ _ _ h => h) (by rfl) ?hy10B4x (by assumption) ?_
                case hy10B4x => intro WW hSw; (try dsimp only at hSw); go_simp; try with_reducible rfl
                try simp only [Act.put, List.setIfInBounds_toArray, List.set_cons_zero, List.set_cons_succ]
                refine take_in (i := 11) (v := ?v11B4x) rfl (by kernel_rfl) (by kernel_rfl) (by kernel_rfl) (fun _ _ _ h => h) (by rfl) ?hy11B4x (by assumption) ?_
                case hy11B4x => intro WW hSw; (try dsimp only at hSw); go_simp; try with_reducible rfl
                try simp only [Act.put, List.setIfInBounds_toArray, List.set_cons_zero, List.set_cons_succ]
                refine take_in (i := 12) (v := ?v12B4x) rfl (by kernel_rfl) (by kernel_rfl) (by kernel_rfl) (fun _ _ _ h => h) (by rfl) ?hy12B4x (by assumption) ?_
                case hy12B4x => intro WW hSw; (try dsimp only at hSw); go_simp; try with_reducible rfl
                try simp only [Act.put, List.setIfInBounds_toArray, List.set_cons_zero, List.set_cons_succ]
                refine take_in (i := 13) (v := ?v13B4x) rfl (by kernel_rfl) (by kernel_rfl) (by kernel_rfl) (fun _ _ _ h => h) (by rfl) ?hy13B4x (by assumption) ?_
                case hy13B4x => intro WW hSw; (try dsimp only at hSw); go_simp; try with_reducible rfl
                try simp only [Act.put, List.setIfInBounds_toArray, List.set_cons_zero, List.set_cons_succ]
                refine take_in (i := 14) (v := .bool false) rfl (by kernel_rfl) (by kernel_rfl) (by kernel_rfl) (fun _ _ _ h => h) (by rfl) ?hy14B4x (by assumption) ?_
                case hy14B4x => intro WW hSw; (try dsimp only at hSw); have hh := hvn; go_simp; try with_reducible rfl
                try simp only [Act.put, List.setIfInBounds_toArray, List.set_cons_zero, List.set_cons_succ]
                refine take_in (i := 15) (v := .bool false) rfl (by kernel_rfl) (by kernel_rfl) (by kernel_rfl) (fun _ _ _ h => h) (by rfl) ?hy15B4x (by assumption) ?_
                case hy15B4x => intro WW hSw; (try dsimp only at hSw); go_simp; try with_reducible rfl
                try simp only [Act.put, List.setIfInBounds_toArray, List.set_cons_zero, List.set_cons_succ]
                refine wpAnyH_done (by kernel_rfl) ?_ _
                have hstep : same + 1 = (if same = 0 ∨ v ≠ v then 1 else same + 1) := by
                  rw [if_neg (fun h => h.elim (fun e => HS0.out e) (fun e => e rfl))]
                have hss : (same : Int) + 1 = (same2 : Int) := by have := HS2.out; omega
                have hsb : ((same2 : Int) == (m : Int)) = false := by rw [beq_eq_false_iff_ne]; have := HS2.out; have := HT.out; omega
                have hnext := meet_step hup HI.out.1 v HV.out _ hstep (by have := HT.out; have := HLM.out; omega)
                have hmu := mu_step hup HI.out.1 v HV.out _ hstep (by have := HT.out; have := HLM.out; omega)
                have HNX := Aside0.mk (And.intro hnext hmu)
                clear hstep hnext hmu
                obtain ⟨Wd, hWd⟩ : ∃ Wd, Wd = wz.drew.drew := ⟨_, rfl⟩
                rw [← hWd]
                have hRd : RowA Wd g (ats.set k p) := by rw [hWd]; exact hR
                have hod : Wd.ownsRow (g + 1) 3 1 u7 out.length (numCells out) := by rw [hWd]; exact ho
                have HBd : Below w.heap.size w Wd := by rw [hWd]; exact ⟨HB.os, HB.tape, HB.output, HB.size, HB.block⟩
                clear hR ho HB hA hL hN hWd
                go_wp2
                go_roundg (gk - 1)
                case measure => have := HI.out.2; omega
                case rel =>
                  refine ⟨kn, ats.set k p, same + 1, v, out, by go_num, rfl, by first | rfl | exact congrArg (Value.int .i64) hmod, hRd, hod, HBd, ⟨?_, ?_⟩⟩
                  · have h := HNX.out.1
                    rw [HP.out] at h
                    rw [HKN.out]; exact h
                  · have h := HNX.out.2
                    rw [HP.out] at h
                    have := HI.out.2; omega
end Go.Proofs.Ytgaiedcjcoebeaa
