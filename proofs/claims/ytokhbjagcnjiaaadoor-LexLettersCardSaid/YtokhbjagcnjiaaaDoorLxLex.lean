/- lex.Lex: a text's words. -/
import Derived.Test.YtokhbjagcnjiaaaDoorLxP
import Derived.Test.YtokhbjagcnjiaaaDoorRegS
import Derived.OwnWalk
import Derived.Deep.Cut
import Derived.Laws.AppendOwn
set_option linter.unusedVariables false
set_option linter.unusedSimpArgs false
namespace Go.Proofs.YtokhbjagcnjiaaaDoor
open Go.RowKit

theorem wp_scope_label {P : Program} {a : Act} {w : World} {Q : Exit → Act → World → Prop} {c rest : Code} (l : Nat) (J : Act → World → Prop) (μ : Act → World → Nat) (hf : findLabel c l = some (Code.skip.seq rest))
    (pass : ∀ a w, J a w → rest.wp P (Exit.jump l (fun a' w' => J a' w' ∧ μ a' w' < μ a w) Q) a w)
    (first : (∀ a w, J a w → rest.wp P (Exit.jump l J Q) a w) → c.wp P (Exit.jump l J Q) a w) : (Code.scope c).wp P Q a w :=
  wp_scope_jumps l J μ hf (first fun a w hJ => Code.wp_mono (fun e a' w' h => by
    cases e <;> first | exact h | exact ⟨h.1, h.2.1⟩) (pass a w hJ)) (fun a w hJ => by
      apply wp_seq
      apply wp_skip
      exact pass a w hJ)
/-- A box that holds a word's four cells. -/
def BoxT (W : World) (b : Nat) (cs : Array Value) : Prop := W.heap[b]? = some (.cells cs 29 (0, 0))
theorem BoxT.cells {W : World} {b : Nat} {cs : Array Value} (h : BoxT W b cs) : ∀ j, W.cell? ⟨b, j, none⟩ = cs[j]? := fun j => by
  unfold World.cell?
  rw [h]
  rfl
theorem BoxT.free {W : World} {b : Nat} {cs : Array Value} (h : BoxT W b cs) : ∀ j, W.frozen? ⟨b, j, none⟩ = false := fun j => Lib.frozen_of_heap h j
theorem BoxT.lt {W : World} {b : Nat} {cs : Array Value} (h : BoxT W b cs) : b < W.heap.size := (Array.getElem?_eq_some_iff.1 h).1
theorem BoxT.put {W : World} {b : Nat} {cs : Array Value} (h : BoxT W b cs) (j : Nat) (v : Value) : BoxT (W.setCell ⟨b, j, none⟩ v) b (cs.setIfInBounds j v) := heap_setCell_same W b j cs _ v h
theorem BoxT.kept {W W' : World} {b : Nat} {cs : Array Value} (h : BoxT W b cs) (hb : Below W.heap.size W W') : BoxT W' b cs := (hb.block b h.lt).trans h
theorem own_keptL {w w' : World} {B : Nat} {e : TypeId} {z : Nat} {v : Value} {n : Nat} {xs : List Value} (h : w.ownsRow B e z v n xs) (hb : Below w.heap.size w w') : w'.ownsRow B e z v n xs := by
  rcases h with ⟨h1, h2 | ⟨g, cap, cur, e1, e2, e3, e4⟩⟩
  · exact ⟨h1, .inl h2⟩
  · exact ⟨h1, .inr ⟨g, cap, cur, e1, e2, (hb.block g (Array.getElem?_eq_some_iff.1 e3).1).trans e3, e4⟩⟩
theorem own_offL {w : World} {B b j : Nat} {e : TypeId} {z : Nat} {v u : Value} {n : Nat} {xs : List Value} (h : w.ownsRow B e z v n xs) (hb : b < B) : (w.setCell ⟨b, j, none⟩ u).ownsRow B e z v n xs := by
  rcases h with ⟨h1, h2 | ⟨g, cap, cur, e1, e2, e3, e4⟩⟩
  · exact ⟨h1, .inl h2⟩
  · exact ⟨h1, .inr ⟨g, cap, cur, e1, e2, (heap_setCell_other w ⟨b, j, none⟩ g u (by simp; omega)).trans e3, e4⟩⟩
theorem utabs_keep {w w' : World} (h : Lib.Utf8Tabs 1 2 w) (hb : Below w.heap.size w w') : Lib.Utf8Tabs 1 2 w' := Utf8Tabs_below h hb
theorem info_tok : (Tryd.prog.info? 29).map (fun i => (i.zero, i.size, i.bytes)) = some (some (.agg #[.int .i64 0, .string ⟨#[]⟩, .int .i64 0, .int .i64 0]), 4, 40) := by kernel_rfl
theorem append_tok {w : World} {ops : Array Oper} {rest : List Oper} {o : Oper} {a : Act} {Q : Exit → Act → World → Prop} (hgd : o.guard = none) (s x : Operand)
    (ho : o.op = .call { callee := .builtin .append, args := #[s, x], argTypes := #[23, 23] }) (base : Nat)
    (v : Value) (n : Nat) (xs : List Value) (hs : a.eval s = v) (hown : w.ownsRow base 29 4 v n xs)
    (ad : Addr) (m c : Nat) (news : List Value) (hx : a.eval x = .slice (some ad) m c) (hl : news.length = m * 4) (hnews : ∀ j u, news[j]? = some u → w.cell? (ad.add j) = some u) (h1 : ∀ u ∈ news, u.oneCell' = true)
    (h63 : n + m ≤ maxLen) (hbytes : (n + m) * 40 ≤ 140737488355328) (hbase : base ≤ w.heap.size)
    (h : ∀ v' w', w'.ownsRow base 29 4 v' (n + m) (xs ++ news) → w.grownBy w' v.ownBlock → (v' = .slice none 0 0 ↔ v = .slice none 0 0 ∧ m = 0) → wpList Tryd.prog ops Q rest (a.put o.dst v') w') : wpList Tryd.prog ops Q (o :: rest) a w := by
  obtain ⟨i0, hi0, hi1, hi2, hi3⟩ := info_parts info_tok
  exact wpList_append_own w hgd s x 23 ho base 29 i0 (.agg #[.int .i64 0, .string ⟨#[]⟩, .int .i64 0, .int .i64 0]) 4 40 Tryd.underlying23 hi0 hi1 hi2 hi3 rfl (by decide) v n xs hs hown ad m c news hx hl hnews h1 h63 hbytes hbase h
theorem decodeGo_at (s : ByteArray) (pos : Nat) (h : pos < s.size) : Lib.decodeGo (s.extract pos s.size) = Lib.decodeL (s.data.toList.drop pos) := by
  have hl : (s.extract pos s.size).data.toList = s.data.toList.drop pos := Lib.extract_to_end s pos
  have hsz : ¬ (s.extract pos s.size).size = 0 := by
    intro e
    have h1 : (s.extract pos s.size).data.toList.length = (s.extract pos s.size).size := rfl
    rw [hl, e] at h1
    simp at h1
    have h2 : s.data.size = s.size := rfl
    omega
  rw [Lib.decodeGo, if_neg hsz, ← hl, Lib.decodeL]

set_option maxRecDepth 100000 in
set_option maxHeartbeats 16000000 in
theorem lex_ok (s : ByteArray) (w : World) (hs : s.size ≤ 4096) (hk : KeysLie w) (hU : Lib.Utf8Tabs 1 2 w) :
    Calls Tryd.prog 10 #[.string s] w fun e w' => ∃ v, e = .returned (.tuple #[v, .int .i64 ((lexL s.data.toList).2.1 : Nat), .int .i64 (lexL s.data.toList).2.2]) ∧ w'.ownsRow (w.heap.size + 1) 29 4 v (lexL s.data.toList).1.length (toksCells (lexL s.data.toList).1) ∧ Below w.heap.size w w' := by
  have hls : s.data.toList.length = s.size := rfl
  obtain ⟨ANS, hANS⟩ : ∃ ANS, ANS = lexL s.data.toList := ⟨_, rfl⟩
  rw [← hANS]
  rw [lexL, if_neg (by omega), hls] at hANS
  have HA := Aside0.mk hANS
  have HK := Aside0.mk hk
  have HU := Aside0.mk hU
  clear hANS hk hU
  have hsi : (s.size : Int) ≤ 4096 := by omega
  go_enter Tryd.func10, Tryd.ntmps10
  go_wp2
  refine wp_scope_label 0 (fun a' w' => ∃ (pos fuel : Nat) (toks : List Tok) (v c0 c1 c2 c3 : Value), a' = { tmps := #[.string s, (a'.tmps.getD 1 undef), (a'.tmps.getD 2 undef), (a'.tmps.getD 3 undef), (a'.tmps.getD 4 undef), v, .pointer (some ⟨w.heap.size, 0, none⟩), (a'.tmps.getD 7 undef), (a'.tmps.getD 8 undef), .int .i64 (pos : Int), (a'.tmps.getD 10 undef), (a'.tmps.getD 11 undef), (a'.tmps.getD 12 undef), (a'.tmps.getD 13 undef), (a'.tmps.getD 14 undef), (a'.tmps.getD 15 undef), (a'.tmps.getD 16 undef), (a'.tmps.getD 17 undef), (a'.tmps.getD 18 undef), (a'.tmps.getD 19 undef), (a'.tmps.getD 20 undef), (a'.tmps.getD 21 undef), (a'.tmps.getD 22 undef), (a'.tmps.getD 23 undef), (a'.tmps.getD 24 undef), (a'.tmps.getD 25 undef), (a'.tmps.getD 26 undef), (a'.tmps.getD 27 undef), (a'.tmps.getD 28 undef), (a'.tmps.getD 29 undef), (a'.tmps.getD 30 undef), (a'.tmps.getD 31 undef), (a'.tmps.getD 32 undef), (a'.tmps.getD 33 undef), (a'.tmps.getD 34 undef), (a'.tmps.getD 35 undef), (a'.tmps.getD 36 undef), (a'.tmps.getD 37 undef), (a'.tmps.getD 38 undef), (a'.tmps.getD 39 undef), (a'.tmps.getD 40 undef), (a'.tmps.getD 41 undef), (a'.tmps.getD 42 undef), (a'.tmps.getD 43 undef), (a'.tmps.getD 44 undef), (a'.tmps.getD 45 undef), (a'.tmps.getD 46 undef), (a'.tmps.getD 47 undef), (a'.tmps.getD 48 undef), (a'.tmps.getD 49 undef), (a'.tmps.getD 50 undef), (a'.tmps.getD 51 undef), (a'.tmps.getD 52 undef), (a'.tmps.getD 53 undef), (a'.tmps.getD 54 undef), (a'.tmps.getD 55 undef), (a'.tmps.getD 56 undef), (a'.tmps.getD 57 undef), (a'.tmps.getD 58 undef), (a'.tmps.getD 59 undef), (a'.tmps.getD 60 undef), (a'.tmps.getD 61 undef), (a'.tmps.getD 62 undef), (a'.tmps.getD 63 undef), (a'.tmps.getD 64 undef), (a'.tmps.getD 65 undef), (a'.tmps.getD 66 undef), (a'.tmps.getD 67 undef), (a'.tmps.getD 68 undef), (a'.tmps.getD 69 undef), (a'.tmps.getD 70 undef), (a'.tmps.getD 71 undef), (a'.tmps.getD 72 undef), (a'.tmps.getD 73 undef), (a'.tmps.getD 74 undef), (a'.tmps.getD 75 undef), (a'.tmps.getD 76 undef), (a'.tmps.getD 77 undef), (a'.tmps.getD 78 undef), (a'.tmps.getD 79 undef), (a'.tmps.getD 80 undef), (a'.tmps.getD 81 undef), (a'.tmps.getD 82 undef), (a'.tmps.getD 83 undef), (a'.tmps.getD 84 undef), (a'.tmps.getD 85 undef), (a'.tmps.getD 86 undef), (a'.tmps.getD 87 undef), (a'.tmps.getD 88 undef), (a'.tmps.getD 89 undef), (a'.tmps.getD 90 undef), (a'.tmps.getD 91 undef), (a'.tmps.getD 92 undef), (a'.tmps.getD 93 undef), (a'.tmps.getD 94 undef), (a'.tmps.getD 95 undef), (a'.tmps.getD 96 undef), (a'.tmps.getD 97 undef), (a'.tmps.getD 98 undef), (a'.tmps.getD 99 undef), (a'.tmps.getD 100 undef), (a'.tmps.getD 101 undef), (a'.tmps.getD 102 undef), (a'.tmps.getD 103 undef), (a'.tmps.getD 104 undef), (a'.tmps.getD 105 undef), (a'.tmps.getD 106 undef)], defers := [] } ∧ pos ≤ s.size ∧ s.size < pos + fuel ∧ Aside0 (lexF fuel pos toks (s.data.toList.drop pos) = ANS) ∧ BoxT w' w.heap.size #[c0, c1, c2, c3] ∧ w'.ownsRow (w.heap.size + 1) 29 4 v toks.length (toksCells toks) ∧ Below w.heap.size w w' ∧ w.heap.size + 1 ≤ w'.heap.size ∧ toks.length ≤ pos) (fun a' _ => s.size + 1 - (intOf (a'.tmps.getD 9 undef)).toNat) rfl ?pass ?first
  case first =>
    intro hrest
    go_wp2
    go_step3
    apply_assumption
    refine hrest _ _ ⟨0, s.size + 1, [], .slice none 0 0, .int .i64 0, .string ⟨#[]⟩, .int .i64 0, .int .i64 0, rfl, Nat.zero_le _, by omega, ⟨HA.out.symm⟩, heap_alloc_new w _, World.ownsRow_nil _ _ _ _, below_more (Below.refl _ _) _, by simp, by simp⟩
  case pass =>
    rintro a' w' ⟨pos, fuel, toks, v, c0, c1, c2, c3, ha, hps, hfu, HV, hbx, hown, HB, hz, htl⟩
    obtain ⟨U, hU⟩ : ∃ U : Nat → Value, U = fun i => a'.tmps.getD i undef := ⟨_, rfl⟩
    have ha2 : a' = { tmps := #[.string s, U 1, U 2, U 3, U 4, v, .pointer (some ⟨w.heap.size, 0, none⟩), U 7, U 8, .int .i64 (pos : Int), U 10, U 11, U 12, U 13, U 14, U 15, U 16, U 17, U 18, U 19, U 20, U 21, U 22, U 23, U 24, U 25, U 26, U 27, U 28, U 29, U 30, U 31, U 32, U 33, U 34, U 35, U 36, U 37, U 38, U 39, U 40, U 41, U 42, U 43, U 44, U 45, U 46, U 47, U 48, U 49, U 50, U 51, U 52, U 53, U 54, U 55, U 56, U 57, U 58, U 59, U 60, U 61, U 62, U 63, U 64, U 65, U 66, U 67, U 68, U 69, U 70, U 71, U 72, U 73, U 74, U 75, U 76, U 77, U 78, U 79, U 80, U 81, U 82, U 83, U 84, U 85, U 86, U 87, U 88, U 89, U 90, U 91, U 92, U 93, U 94, U 95, U 96, U 97, U 98, U 99, U 100, U 101, U 102, U 103, U 104, U 105, U 106], defers := [] } := by rw [hU]; exact ha
    clear hU ha
    dsimp only at ha2
    subst ha2
    obtain ⟨f, rfl⟩ : ∃ f, fuel = f + 1 := ⟨fuel - 1, by omega⟩
    have hRl : (s.extract pos s.size).data.toList = s.data.toList.drop pos := Lib.extract_to_end s pos
    have hRs : (s.extract pos s.size).size = (s.data.toList.drop pos).length := by rw [← hRl]; rfl
    have hLl : (s.data.toList.drop pos).length = s.size - pos := by rw [List.length_drop, hls]
    have hRb : ∀ W, Calls Tryd.prog 19 #[.string (s.extract pos s.size), .func (.func 20) #[] #[]] W fun e w1 => e = .returned (.int .i64 (runL blankB (s.data.toList.drop pos).length (s.data.toList.drop pos) : Nat)) ∧ Below W.heap.size W w1 := fun W => by
      have h := run_blank (s.extract pos s.size) W (by rw [hRs]; omega)
      rw [hRl, hRs] at h
      exact h
    have hbl := runL_le blankB (s.data.toList.drop pos).length (s.data.toList.drop pos)
    have hst := HV.out
    rw [lexF, List.drop_drop] at hst
    generalize runL blankB (s.data.toList.drop pos).length (s.data.toList.drop pos) = b at hRb hbl hst
    obtain ⟨pos1, hpos1⟩ : ∃ p, p = pos + b := ⟨_, rfl⟩
    have hpi : (pos : Int) + (b : Int) = (pos1 : Int) := by omega
    rw [← hpos1] at hst
    have hp1s : pos1 ≤ s.size := by omega
    have HST := Aside0.mk hst
    have hposi : (pos : Int) ≤ (s.size : Int) := by omega
    have hp1i : (pos1 : Int) ≤ (s.size : Int) := by omega
    have hp1p : pos ≤ pos1 := by omega
    have HP1 := Aside0.mk hpos1
    clear hst HV hRl hRs hpos1
    go_wp2_with (go_at_call 19; refine (hRb _).mono ?_)
    first
      | (intro e W1 he hb1; subst he)
      | rintro e W1 ⟨rfl, hb1⟩
    have HB1 := below_then HB hb1
    have hbx1 := hbx.kept hb1
    have hown1 := own_keptL hown hb1
    have hz1 : w.heap.size + 1 ≤ W1.heap.size := by have := hb1.size; omega
    clear hb1 hbx hown HB hz hRb
    have hbc1 := hbx1.cells
    have hbf1 := hbx1.free
    by_cases hend : pos1 = s.size
    · have hendi : (pos1 : Int) = (s.size : Int) := by omega
      have hst := HST.out
      rw [if_pos (List.drop_eq_nil_of_le (by omega))] at hst
      have HS := Aside0.mk hst
      clear hst hbc1 hbf1
      go_wp2
      first
        | go_ret3
        | (simp only [Exit.jump]; go_ret3)
      refine ⟨v, ?_, ?_, HB1⟩
      · rw [← HS.out]
        rfl
      · rw [← HS.out]
        exact hown1
    · have hendi : ((pos1 : Int) == (s.size : Int)) = false := by rw [beq_eq_false_iff_ne]; omega
      have hlt1 : pos1 < s.size := by omega
      have hst := HST.out
      rw [if_neg (drop_ne hlt1)] at hst
      have hne1 : s.data.toList.drop pos1 ≠ [] := drop_ne hlt1
      have hdg := decodeGo_at s pos1 hlt1
      have hR1l : (s.extract pos1 s.size).data.toList = s.data.toList.drop pos1 := Lib.extract_to_end s pos1
      have hR1s : (s.extract pos1 s.size).size = (s.data.toList.drop pos1).length := by rw [← hR1l]; rfl
      have hL1l : (s.data.toList.drop pos1).length = s.size - pos1 := by rw [List.length_drop, hls]
      have HST2 := Aside0.mk hst
      clear hst HST hend
      go_upto_region 13 with (fail)
      generalize s.extract pos1 s.size = R1 at hdg hR1l hR1s ⊢
      have HR1l := Aside0.mk hR1l
      have HR1s := Aside0.mk hR1s
      have HNE := Aside0.mk hne1
      have HDG := Aside0.mk hdg
      have HLS := Aside0.mk hls
      clear hR1l hR1s hne1 hdg hls
      generalize hL1 : s.data.toList.drop pos1 = L1 at HR1l HR1s HNE HDG hL1l HST2
      have HL1 := Aside0.mk hL1
      clear hL1
      obtain ⟨W3, hW3⟩ : ∃ W3, W3 = ((((W1).setCell ⟨w.heap.size, 0, none⟩ (.int .i64 0)).setCell ⟨w.heap.size, 1, none⟩ (.string ⟨#[]⟩)).setCell ⟨w.heap.size, 2, none⟩ (.int .i64 0)).setCell ⟨w.heap.size, 3, none⟩ (.int .i64 (pos1 : Int)) := ⟨_, rfl⟩
      rw [← hW3]
      have HB3 : Below w.heap.size w W3 := by rw [hW3]; exact below_set (below_set (below_set (below_set HB1 (by simp) _) (by simp) _) (by simp) _) (by simp) _
      have hz3 : w.heap.size + 1 ≤ W3.heap.size := by rw [hW3]; simpa using hz1
      have hbx3 : BoxT W3 w.heap.size #[.int .i64 0, .string ⟨#[]⟩, .int .i64 0, .int .i64 (pos1 : Int)] := by rw [hW3]; exact (((hbx1.put 0 _).put 1 _).put 2 _).put 3 _
      have hown3 : W3.ownsRow (w.heap.size + 1) 29 4 v toks.length (toksCells toks) := by rw [hW3]; exact own_offL (j := 3) (u := .int .i64 (pos1 : Int)) (own_offL (j := 2) (u := .int .i64 0) (own_offL (j := 1) (u := .string ⟨#[]⟩) (own_offL (j := 0) (u := .int .i64 0) hown1 (Nat.lt_succ_self _)) (Nat.lt_succ_self _)) (Nat.lt_succ_self _)) (Nat.lt_succ_self _)
      have hbc3 := hbx3.cells
      have hbf3 := hbx3.free
      clear hW3 hbx1 hbc1 hbf1 hown1 HB1 hz1
      have hDc : ∀ W, Below w.heap.size w W → Calls Tryd.prog 21 #[.string R1] W fun e w1 => e = .returned (.tuple #[.int .i32 (Lib.decodeL L1).1, .int .i64 (Lib.decodeL L1).2]) ∧ Below W.heap.size W w1 := fun W hW => by
        have h := Tryd.utf8_DecodeRuneInString R1 W (utabs_keep HU.out hW)
        rw [HDG.out] at h
        exact h
      go_wp2_with (go_at_call 21; refine (hDc _ HB3).mono ?_)
      first
        | (intro e W4 he hb1; subst he)
        | rintro e W4 ⟨rfl, hb1⟩
      have HB4 := below_then HB3 hb1
      have hbx4 := hbx3.kept hb1
      have hown4 := own_keptL hown3 hb1
      have hz4 : w.heap.size + 1 ≤ W4.heap.size := by have := hb1.size; omega
      have hbc4 := hbx4.cells
      have hbf4 := hbx4.free
      clear hb1 hbx3 hbc3 hbf3 hown3 HB3 hz3
      clear hDc
      have hst := HST2.out
      clear HST2
      have hlet := fun W => letter_any ((Lib.decodeL L1).1 : Int) W
      have hdig := fun W => digit_any ((Lib.decodeL L1).1 : Int) W
      have hrnm : ∀ W, Calls Tryd.prog 19 #[.string R1, .func (.func 23) #[] #[]] W fun e w1 => e = .returned (.int .i64 (runL nameB L1.length L1 : Nat)) ∧ Below W.heap.size W w1 := fun W => by
        have h := run_name R1 W (by rw [HR1s.out]; omega)
        rw [HR1l.out, HR1s.out] at h
        exact h
      have hrdg : ∀ W, Calls Tryd.prog 19 #[.string R1, .func (.func 24) #[] #[]] W fun e w1 => e = .returned (.int .i64 (runL digitB L1.length L1 : Nat)) ∧ Below W.heap.size W w1 := fun W => by
        have h := run_digit R1 W (by rw [HR1s.out]; omega)
        rw [HR1l.out, HR1s.out] at h
        exact h
      have htk : ∀ n, (R1.extract 0 n).data.toList = L1.take n := fun n => by rw [ext_list, HR1l.out]; simp
      have htn : ∀ n, n ≤ L1.length → (R1.extract 0 n).size = n := fun n hn => by
        have h : (R1.extract 0 n).data.toList.length = (R1.extract 0 n).size := rfl
        rw [← h, htk, List.length_take]
        omega
      have HTK := Aside0.mk htk
      have HTN := Aside0.mk htn
      clear htk htn
      by_cases hl : letterB ((Lib.decodeL L1).1 : Int) = true
      · rw [wordL, if_pos hl] at hst
        rw [hl] at hlet
        have hnl := runL_le nameB L1.length L1
        have hnp := runL_pos nameB L1 HNE.out (by unfold nameB; rw [hl]; rfl)
        generalize runL nameB L1.length L1 = n at hrnm hst hnl hnp
        have hkey : ∀ W, Below w.heap.size w W → Calls Tryd.prog 12 #[.string (R1.extract 0 n)] W fun e w1 => e = .returned (.string ⟨(keyL (L1.take n)).toArray⟩) ∧ Below W.heap.size W w1 := fun W hW => by
          have h := key_any (R1.extract 0 n) W (by rw [HTN.out n hnl]; omega) (HK.out.below hW)
          rw [HTK.out] at h
          exact h
        have hR1n : R1.size = s.size - pos1 := by rw [HR1s.out, hL1l]
        have hni2 : (n : Int) ≤ (R1.size : Int) := by omega
        have hn02 : (0 : Int) ≤ (n : Int) := by omega
        have HN := Aside0.mk hR1n
        clear hl hrdg hdig hR1n
        go_wp2_with (first | (go_at_call 22; refine (hlet _).mono ?_; rintro e w9 ⟨rfl, rfl⟩) | (go_at_call 19; refine (hrnm _).mono ?_))
        first
          | (intro e W5 he hb1; subst he)
          | rintro e W5 ⟨rfl, hb1⟩
        have HB5 := below_then HB4 hb1
        have hbx5 := hbx4.kept hb1
        have hown5 := own_keptL hown4 hb1
        have hz5 : w.heap.size + 1 ≤ W5.heap.size := by have := hb1.size; omega
        have hbc5 := hbx5.cells
        have hbf5 := hbx5.free
        clear hb1 hbx4 hbc4 hbf4 hown4 HB4 hz4
        go_wp2_with (go_at_call 12; refine (hkey _ HB5).mono ?_)
        first
          | (intro e W6 he hb1; subst he)
          | rintro e W6 ⟨rfl, hb1⟩
        have HB6 := below_then HB5 hb1
        have hbx6 := hbx5.kept hb1
        have hown6 := own_keptL hown5 hb1
        have hz6 : w.heap.size + 1 ≤ W6.heap.size := by have := hb1.size; omega
        have hbc6 := hbx6.cells
        have hbf6 := hbx6.free
        clear hb1 hbx5 hbc5 hbf5 hown5 HB5 hz5
        clear hrnm hkey hlet
        by_cases hk0 : keyL (L1.take n) = []
        · rw [if_pos hk0] at hst
          rw [hk0]
          go_upto_region 21 with (fail)
          obtain ⟨W7, hW7⟩ : ∃ W7, W7 = ((W6).setCell ⟨w.heap.size, 0, none⟩ (.int .i64 2)).setCell ⟨w.heap.size, 1, none⟩ (.string ⟨#[]⟩) := ⟨_, rfl⟩
          rw [← hW7]
          have HB7 : Below w.heap.size w W7 := by rw [hW7]; exact below_set (below_set HB6 (by simp) _) (by simp) _
          have hz7 : w.heap.size + 1 ≤ W7.heap.size := by rw [hW7]; simpa using hz6
          have hbx7 : BoxT W7 w.heap.size #[.int .i64 2, .string ⟨#[]⟩, .int .i64 0, .int .i64 (pos1 : Int)] := by rw [hW7]; exact (hbx6.put 0 _).put 1 _
          have hown7 : W7.ownsRow (w.heap.size + 1) 29 4 v toks.length (toksCells toks) := by rw [hW7]; exact own_offL (j := 1) (u := .string ⟨#[]⟩) (own_offL (j := 0) (u := .int .i64 2) hown6 (Nat.lt_succ_self _)) (Nat.lt_succ_self _)
          have hbc7 := hbx7.cells
          have hbf7 := hbx7.free
          clear hW7 hbx6 hbc6 hbf6 hown6 HB6 hz6
          go_upto_region 22 with (fail)
          refine wp_region_held_drew (S := (fun _ => True)) (by kernel_rfl) ?_ (fun hHeld => ?_)
          · trivial
          refine take_in (i := 0) (v := ?v0) rfl (by kernel_rfl) (by kernel_rfl) (by kernel_rfl) (fun _ _ _ h => h) (by rfl) ?hy0 (by assumption) ?_
          case hy0 => intro WW hSw; (try dsimp only at hSw); go_simp; try with_reducible rfl
          try simp only [Act.put, List.setIfInBounds_toArray, List.set_cons_zero, List.set_cons_succ]
          refine take_in (i := 1) (v := ?v1) rfl (by kernel_rfl) (by kernel_rfl) (by kernel_rfl) (fun _ _ _ h => h) (by rfl) ?hy1 (by assumption) ?_
          case hy1 => intro WW hSw; (try dsimp only at hSw); go_simp; try with_reducible rfl
          try simp only [Act.put, List.setIfInBounds_toArray, List.set_cons_zero, List.set_cons_succ]
          refine take_in (i := 2) (v := ?v2) rfl (by kernel_rfl) (by kernel_rfl) (by kernel_rfl) (fun _ _ _ h => h) (by rfl) ?hy2 (by assumption) ?_
          case hy2 => intro WW hSw; (try dsimp only at hSw); go_simp; try with_reducible rfl
          try simp only [Act.put, List.setIfInBounds_toArray, List.set_cons_zero, List.set_cons_succ]
          refine take_in (i := 3) (v := ?v3) rfl (by kernel_rfl) (by kernel_rfl) (by kernel_rfl) (fun _ _ _ h => h) (by rfl) ?hy3 (by assumption) ?_
          case hy3 => intro WW hSw; (try dsimp only at hSw); go_simp; try with_reducible rfl
          try simp only [Act.put, List.setIfInBounds_toArray, List.set_cons_zero, List.set_cons_succ]
          refine one_step (i := 4) (by kernel_rfl) rfl (fun K hK => ?_)
          go_simp
          refine hK.out _ _ ?_ (fun hHeld => ?_)
          · trivial
          clear hK K
          try simp only [Act.put, List.setIfInBounds_toArray, List.set_cons_zero, List.set_cons_succ]
          refine take_in (i := 5) (v := ?v5) rfl (by kernel_rfl) (by kernel_rfl) (by kernel_rfl) (fun _ _ _ h => h) (by rfl) ?hy5 (by assumption) ?_
          case hy5 => intro WW hSw; (try dsimp only at hSw); go_simp; try with_reducible rfl
          try simp only [Act.put, List.setIfInBounds_toArray, List.set_cons_zero, List.set_cons_succ]
          refine one_step (i := 6) (by kernel_rfl) rfl (fun K hK => ?_)
          go_simp
          refine hK.out _ _ ?_ (fun hHeld => ?_)
          · trivial
          clear hK K
          try simp only [Act.put, List.setIfInBounds_toArray, List.set_cons_zero, List.set_cons_succ]
          refine wpAnyH_done (by kernel_rfl) ?_ _
          obtain ⟨W8, hW8⟩ : ∃ W8, W8 = (((W7).setCell ⟨w.heap.size, 0, none⟩ (.int .i64 1)).setCell ⟨w.heap.size, 1, none⟩ (.string (R1.extract 0 n))).drew := ⟨_, rfl⟩
          rw [← hW8]
          have HB8 : Below w.heap.size w W8 := by rw [hW8]; exact (let h := (below_set (below_set HB7 (by simp) _) (by simp) _); ⟨h.os, h.tape, h.output, h.size, h.block⟩)
          have hz8 : w.heap.size + 1 ≤ W8.heap.size := by rw [hW8]; simpa using hz7
          have hbx8 : BoxT W8 w.heap.size #[.int .i64 1, .string (R1.extract 0 n), .int .i64 0, .int .i64 (pos1 : Int)] := by rw [hW8]; exact (hbx7.put 0 _).put 1 _
          have hown8 : W8.ownsRow (w.heap.size + 1) 29 4 v toks.length (toksCells toks) := by rw [hW8]; exact own_offL (j := 1) (u := .string (R1.extract 0 n)) (own_offL (j := 0) (u := .int .i64 1) hown7 (Nat.lt_succ_self _)) (Nat.lt_succ_self _)
          have hbc8 := hbx8.cells
          have hbf8 := hbx8.free
          clear hW8 hbx7 hbc7 hbf7 hown7 HB7 hz7
          have hPT0 : R1.extract 0 n = ⟨(L1.take n).toArray⟩ := by
            apply ByteArray.ext
            rw [← Array.toList_inj, HTK.out]
          generalize hPT : R1.extract 0 n = PT at *
          have HPT := Aside0.mk hPT0
          clear hPT hPT0 HTK HTN
          by_cases h32 : 32 < n
          · have h32i : (32 : Int) < (n : Int) := by omega
            rw [if_pos h32] at hst
            simp only [ne_eq, Int.reduceEq, not_false_eq_true, if_true] at hst
            have HS := Aside0.mk hst
            clear hst
            go_wp2
            first
              | go_ret3
              | (simp only [Exit.jump]; go_ret3)
            refine ⟨.slice none 0 0, ?_, ?_, HB8⟩
            · rw [← HS.out]
              rfl
            · rw [← HS.out]
              exact World.ownsRow_nil _ _ _ _
          · have h32i : (n : Int) ≤ 32 := by omega
            rw [if_neg h32] at hst
            simp only [ne_eq, not_true_eq_false, if_false] at hst
            have HS := Aside0.mk hst
            clear hst
            obtain ⟨pos2, hp2⟩ : ∃ p, p = pos1 + n := ⟨_, rfl⟩
            have hni : (pos1 : Int) + ((n : Nat) : Int) = (pos2 : Int) := by omega
            have hp2s : pos2 ≤ s.size := by omega
            have hp2i : (pos2 : Int) ≤ (s.size : Int) := by omega
            have hp2p : pos1 < pos2 := by omega
            have HP2 := Aside0.mk hp2
            clear hp2
            go_wp2_with (at_builtin; refine append_tok rfl (.tmp 100) (.tmp 102) rfl (w.heap.size + 1) _ _ _ rfl (hown8.alloc _) ⟨W8.heap.size, 0, none⟩ 1 1 [.int .i64 1, .string PT, .int .i64 0, .int .i64 (pos1 : Int)] rfl rfl ?c1 ?c2 ?c3 ?c4 ?c5 ?_)
            case c1 =>
              intro j u hj
              match j, hj with
              | 0, hj => simp at hj; subst hj; simp [Addr.add]
              | 1, hj => simp at hj; subst hj; simp [Addr.add]
              | 2, hj => simp at hj; subst hj; simp [Addr.add]
              | 3, hj => simp at hj; subst hj; simp [Addr.add]
              | (j + 4), hj => simp at hj
            case c2 => intro u hu; simp at hu; rcases hu with rfl | rfl | rfl | rfl <;> rfl
            case c3 => unfold maxLen; omega
            case c4 => omega
            case c5 => simp; omega
            intro v9 w9 ho9 hg9 _
            have HB9 : Below w.heap.size w w9 := by
              refine ⟨hg9.os.trans HB8.os, hg9.tape.trans HB8.tape, hg9.output.trans HB8.output, Nat.le_trans HB8.size (Nat.le_trans (by simp) hg9.size), fun k hk => ?_⟩
              have h9 := hg9.block k (by have := HB8.size; simp; omega) (fun e => by have := (hown8.lt k e.symm).1; omega)
              exact (h9.trans (heap_alloc_old _ _ (by have := HB8.size; omega))).trans (HB8.block k hk)
            have hbx9 : BoxT w9 w.heap.size #[.int .i64 1, .string PT, .int .i64 0, .int .i64 (pos1 : Int)] := by
              have h9 := hg9.block w.heap.size (by simp; omega) (fun e => by have := (hown8.lt _ e.symm).1; omega)
              exact (h9.trans (heap_alloc_old _ _ (by omega))).trans hbx8
            have hz9 : w.heap.size + 1 ≤ w9.heap.size := by have := hg9.size; simp at this; omega
            clear hg9 hown8 hbx8 hbc8 hbf8 HB8 hz8
            go_wp2
            go_step3
            apply And.intro rfl
            have hPT := HPT.out
            subst hPT
            refine ⟨⟨pos2, f, toks ++ [(1, L1.take n, 0, (pos1 : Int))], v9, .int .i64 1, .string ⟨(L1.take n).toArray⟩, .int .i64 0, .int .i64 (pos1 : Int), rfl, by omega, by omega, ⟨?_⟩, hbx9, ?_, HB9, hz9, ?_⟩, ?_⟩
            · have h := HS.out
              have h2 := HL1.out
              subst h2
              rw [List.drop_drop, ← HP2.out] at h
              exact h
            · rw [List.length_append, toksCells_append]
              exact ho9
            · rw [List.length_append, List.length_singleton]
              omega
            · show s.size + 1 - ((pos2 : Nat) : Int).toNat < s.size + 1 - ((pos : Nat) : Int).toNat
              omega
        · rw [if_neg hk0] at hst
          have hkb : ((⟨(keyL (L1.take n)).toArray⟩ : ByteArray).toList == ([] : List UInt8)) = false := by rw [Lib.toList_data]; simpa using hk0
          have hks : ¬ (⟨(keyL (L1.take n)).toArray⟩ : ByteArray).size = 0 := by
            intro h
            exact hk0 (List.length_eq_zero_iff.1 h)
          generalize keyL (L1.take n) = kk at hkb hst hks ⊢
          generalize hKT : (⟨kk.toArray⟩ : ByteArray) = KT at hkb hks ⊢
          have HKT := Aside0.mk hKT
          clear hk0 hKT
          go_upto_region 21 with (fail)
          obtain ⟨W7, hW7⟩ : ∃ W7, W7 = ((W6).setCell ⟨w.heap.size, 0, none⟩ (.int .i64 2)).setCell ⟨w.heap.size, 1, none⟩ (.string KT) := ⟨_, rfl⟩
          rw [← hW7]
          have HB7 : Below w.heap.size w W7 := by rw [hW7]; exact below_set (below_set HB6 (by simp) _) (by simp) _
          have hz7 : w.heap.size + 1 ≤ W7.heap.size := by rw [hW7]; simpa using hz6
          have hbx7 : BoxT W7 w.heap.size #[.int .i64 2, .string KT, .int .i64 0, .int .i64 (pos1 : Int)] := by rw [hW7]; exact (hbx6.put 0 _).put 1 _
          have hown7 : W7.ownsRow (w.heap.size + 1) 29 4 v toks.length (toksCells toks) := by rw [hW7]; exact own_offL (j := 1) (u := .string KT) (own_offL (j := 0) (u := .int .i64 2) hown6 (Nat.lt_succ_self _)) (Nat.lt_succ_self _)
          have hbc7 := hbx7.cells
          have hbf7 := hbx7.free
          clear hW7 hbx6 hbc6 hbf6 hown6 HB6 hz6
          simp only [ne_eq, not_true_eq_false, if_false] at hst
          have HS := Aside0.mk hst
          clear hst
          obtain ⟨pos2, hp2⟩ : ∃ p, p = pos1 + n := ⟨_, rfl⟩
          have hni : (pos1 : Int) + ((n : Nat) : Int) = (pos2 : Int) := by omega
          have hp2s : pos2 ≤ s.size := by omega
          have hp2i : (pos2 : Int) ≤ (s.size : Int) := by omega
          have hp2p : pos1 < pos2 := by omega
          have HP2 := Aside0.mk hp2
          clear hp2
          go_wp2_with (at_builtin; refine append_tok rfl (.tmp 100) (.tmp 102) rfl (w.heap.size + 1) _ _ _ rfl (hown7.alloc _) ⟨W7.heap.size, 0, none⟩ 1 1 [.int .i64 2, .string KT, .int .i64 0, .int .i64 (pos1 : Int)] rfl rfl ?c1 ?c2 ?c3 ?c4 ?c5 ?_)
          case c1 =>
            intro j u hj
            match j, hj with
            | 0, hj => simp at hj; subst hj; simp [Addr.add]
            | 1, hj => simp at hj; subst hj; simp [Addr.add]
            | 2, hj => simp at hj; subst hj; simp [Addr.add]
            | 3, hj => simp at hj; subst hj; simp [Addr.add]
            | (j + 4), hj => simp at hj
          case c2 => intro u hu; simp at hu; rcases hu with rfl | rfl | rfl | rfl <;> rfl
          case c3 => unfold maxLen; omega
          case c4 => omega
          case c5 => simp; omega
          intro v9 w9 ho9 hg9 _
          have HB9 : Below w.heap.size w w9 := by
            refine ⟨hg9.os.trans HB7.os, hg9.tape.trans HB7.tape, hg9.output.trans HB7.output, Nat.le_trans HB7.size (Nat.le_trans (by simp) hg9.size), fun k hk => ?_⟩
            have h9 := hg9.block k (by have := HB7.size; simp; omega) (fun e => by have := (hown7.lt k e.symm).1; omega)
            exact (h9.trans (heap_alloc_old _ _ (by have := HB7.size; omega))).trans (HB7.block k hk)
          have hbx9 : BoxT w9 w.heap.size #[.int .i64 2, .string KT, .int .i64 0, .int .i64 (pos1 : Int)] := by
            have h9 := hg9.block w.heap.size (by simp; omega) (fun e => by have := (hown7.lt _ e.symm).1; omega)
            exact (h9.trans (heap_alloc_old _ _ (by omega))).trans hbx7
          have hz9 : w.heap.size + 1 ≤ w9.heap.size := by have := hg9.size; simp at this; omega
          clear hg9 hown7 hbx7 hbc7 hbf7 HB7 hz7
          go_wp2
          go_step3
          apply And.intro rfl
          have hKT := HKT.out
          subst hKT
          refine ⟨⟨pos2, f, toks ++ [(2, kk, 0, (pos1 : Int))], v9, .int .i64 2, .string ⟨kk.toArray⟩, .int .i64 0, .int .i64 (pos1 : Int), rfl, by omega, by omega, ⟨?_⟩, hbx9, ?_, HB9, hz9, ?_⟩, ?_⟩
          · have h := HS.out
            have h2 := HL1.out
            subst h2
            rw [List.drop_drop, ← HP2.out] at h
            exact h
          · rw [List.length_append, toksCells_append]
            exact ho9
          · rw [List.length_append, List.length_singleton]
            omega
          · show s.size + 1 - ((pos2 : Nat) : Int).toNat < s.size + 1 - ((pos : Nat) : Int).toNat
            omega
      · have hlB : letterB ((Lib.decodeL L1).1 : Int) = false := by simpa using hl
        rw [wordL, if_neg hl] at hst
        rw [hlB] at hlet
        clear hl hlB hrnm
        by_cases hd : digitB ((Lib.decodeL L1).1 : Int) = true
        · rw [if_pos hd] at hst
          rw [hd] at hdig
          have hall := runL_dig L1.length L1
          have hnl := runL_le digitB L1.length L1
          have hnp := runL_pos digitB L1 HNE.out hd
          generalize runL digitB L1.length L1 = n at hrdg hst hnl hnp hall
          have hnum : ∀ W, Calls Tryd.prog 25 #[.string (R1.extract 0 n)] W fun e w1 => e = .returned (.tuple #[.int .i64 ((numD (L1.take n) 0).getD 0), .bool (numD (L1.take n) 0).isSome]) ∧ Below W.heap.size W w1 := fun W => by
            have h := number_any (R1.extract 0 n) W (by rw [HTN.out n hnl]; omega) (by rw [HTK.out]; exact hall)
            rw [HTK.out] at h
            exact h
          have hR1n : R1.size = s.size - pos1 := by rw [HR1s.out, hL1l]
          have hni2 : (n : Int) ≤ (R1.size : Int) := by omega
          have hn02 : (0 : Int) ≤ (n : Int) := by omega
          clear hd hR1n hall
          go_wp2_with (first | (go_at_call 22; refine (hlet _).mono ?_; rintro e w9 ⟨rfl, rfl⟩) | (go_at_call 24; refine (hdig _).mono ?_; rintro e w9 ⟨rfl, rfl⟩) | (go_at_call 19; refine (hrdg _).mono ?_))
          first
            | (intro e W5 he hb1; subst he)
            | rintro e W5 ⟨rfl, hb1⟩
          have HB5 := below_then HB4 hb1
          have hbx5 := hbx4.kept hb1
          have hown5 := own_keptL hown4 hb1
          have hz5 : w.heap.size + 1 ≤ W5.heap.size := by have := hb1.size; omega
          have hbc5 := hbx5.cells
          have hbf5 := hbx5.free
          clear hb1 hbx4 hbc4 hbf4 hown4 HB4 hz4
          clear hrdg hlet hdig
          go_upto_region 29 with (fail)
          obtain ⟨W6, hW6⟩ : ∃ W6, W6 = (W5).setCell ⟨w.heap.size, 0, none⟩ (.int .i64 3) := ⟨_, rfl⟩
          rw [← hW6]
          have HB6 : Below w.heap.size w W6 := by rw [hW6]; exact below_set HB5 (by simp) _
          have hz6 : w.heap.size + 1 ≤ W6.heap.size := by rw [hW6]; simpa using hz5
          have hbx6 : BoxT W6 w.heap.size #[.int .i64 3, .string ⟨#[]⟩, .int .i64 0, .int .i64 (pos1 : Int)] := by rw [hW6]; exact hbx5.put 0 _
          have hown6 : W6.ownsRow (w.heap.size + 1) 29 4 v toks.length (toksCells toks) := by rw [hW6]; exact own_offL (j := 0) (u := .int .i64 3) hown5 (Nat.lt_succ_self _)
          have hbc6 := hbx6.cells
          have hbf6 := hbx6.free
          clear hW6 hbx5 hbc5 hbf5 hown5 HB5 hz5
          cases hv : numD (L1.take n) 0 with
          | none =>
            rw [hv] at hst hnum
            simp only [ne_eq, Int.reduceEq, not_false_eq_true, if_true] at hst
            go_wp2_with (go_at_call 25; refine (hnum _).mono ?_)
            first
              | (intro e W7 he hb1; subst he)
              | rintro e W7 ⟨rfl, hb1⟩
            have HB7 := below_then HB6 hb1
            have hbx7 := hbx6.kept hb1
            have hown7 := own_keptL hown6 hb1
            have hz7 : w.heap.size + 1 ≤ W7.heap.size := by have := hb1.size; omega
            have hbc7 := hbx7.cells
            have hbf7 := hbx7.free
            clear hb1 hbx6 hbc6 hbf6 hown6 HB6 hz6
            clear hnum hv
            go_upto_region 30 with (fail)
            obtain ⟨W8, hW8⟩ : ∃ W8, W8 = (W7).setCell ⟨w.heap.size, 2, none⟩ (.int .i64 0) := ⟨_, rfl⟩
            rw [← hW8]
            have HB8 : Below w.heap.size w W8 := by rw [hW8]; exact below_set HB7 (by simp) _
            have hz8 : w.heap.size + 1 ≤ W8.heap.size := by rw [hW8]; simpa using hz7
            have hbx8 : BoxT W8 w.heap.size #[.int .i64 3, .string ⟨#[]⟩, .int .i64 0, .int .i64 (pos1 : Int)] := by rw [hW8]; exact hbx7.put 2 _
            have hown8 : W8.ownsRow (w.heap.size + 1) 29 4 v toks.length (toksCells toks) := by rw [hW8]; exact own_offL (j := 2) (u := .int .i64 0) hown7 (Nat.lt_succ_self _)
            have hbc8 := hbx8.cells
            have hbf8 := hbx8.free
            clear hW8 hbx7 hbc7 hbf7 hown7 HB7 hz7
            have HS := Aside0.mk hst
            clear hst
            go_wp2
            first
              | go_ret3
              | (simp only [Exit.jump]; go_ret3)
            refine ⟨.slice none 0 0, ?_, ?_, HB8⟩
            · rw [← HS.out]
              rfl
            · rw [← HS.out]
              exact World.ownsRow_nil _ _ _ _
          | some vv =>
            rw [hv] at hst hnum
            simp only [ne_eq, not_true_eq_false, if_false] at hst
            go_wp2_with (go_at_call 25; refine (hnum _).mono ?_)
            first
              | (intro e W7 he hb1; subst he)
              | rintro e W7 ⟨rfl, hb1⟩
            have HB7 := below_then HB6 hb1
            have hbx7 := hbx6.kept hb1
            have hown7 := own_keptL hown6 hb1
            have hz7 : w.heap.size + 1 ≤ W7.heap.size := by have := hb1.size; omega
            have hbc7 := hbx7.cells
            have hbf7 := hbx7.free
            clear hb1 hbx6 hbc6 hbf6 hown6 HB6 hz6
            clear hnum hv
            go_upto_region 30 with (fail)
            obtain ⟨W8, hW8⟩ : ∃ W8, W8 = (W7).setCell ⟨w.heap.size, 2, none⟩ (.int .i64 vv) := ⟨_, rfl⟩
            rw [← hW8]
            have HB8 : Below w.heap.size w W8 := by rw [hW8]; exact below_set HB7 (by simp) _
            have hz8 : w.heap.size + 1 ≤ W8.heap.size := by rw [hW8]; simpa using hz7
            have hbx8 : BoxT W8 w.heap.size #[.int .i64 3, .string ⟨#[]⟩, .int .i64 vv, .int .i64 (pos1 : Int)] := by rw [hW8]; exact hbx7.put 2 _
            have hown8 : W8.ownsRow (w.heap.size + 1) 29 4 v toks.length (toksCells toks) := by rw [hW8]; exact own_offL (j := 2) (u := .int .i64 vv) hown7 (Nat.lt_succ_self _)
            have hbc8 := hbx8.cells
            have hbf8 := hbx8.free
            clear hW8 hbx7 hbc7 hbf7 hown7 HB7 hz7
            have HS := Aside0.mk hst
            clear hst
            obtain ⟨pos2, hp2⟩ : ∃ p, p = pos1 + n := ⟨_, rfl⟩
            have hni : (pos1 : Int) + ((n : Nat) : Int) = (pos2 : Int) := by omega
            have hp2s : pos2 ≤ s.size := by omega
            have hp2i : (pos2 : Int) ≤ (s.size : Int) := by omega
            have hp2p : pos1 < pos2 := by omega
            have HP2 := Aside0.mk hp2
            clear hp2
            go_wp2_with (at_builtin; refine append_tok rfl (.tmp 100) (.tmp 102) rfl (w.heap.size + 1) _ _ _ rfl (hown8.alloc _) ⟨W8.heap.size, 0, none⟩ 1 1 [.int .i64 3, .string ⟨#[]⟩, .int .i64 vv, .int .i64 (pos1 : Int)] rfl rfl ?c1 ?c2 ?c3 ?c4 ?c5 ?_)
            case c1 =>
              intro j u hj
              match j, hj with
              | 0, hj => simp at hj; subst hj; simp [Addr.add]
              | 1, hj => simp at hj; subst hj; simp [Addr.add]
              | 2, hj => simp at hj; subst hj; simp [Addr.add]
              | 3, hj => simp at hj; subst hj; simp [Addr.add]
              | (j + 4), hj => simp at hj
            case c2 => intro u hu; simp at hu; rcases hu with rfl | rfl | rfl | rfl <;> rfl
            case c3 => unfold maxLen; omega
            case c4 => omega
            case c5 => simp; omega
            intro v9 w9 ho9 hg9 _
            have HB9 : Below w.heap.size w w9 := by
              refine ⟨hg9.os.trans HB8.os, hg9.tape.trans HB8.tape, hg9.output.trans HB8.output, Nat.le_trans HB8.size (Nat.le_trans (by simp) hg9.size), fun k hk => ?_⟩
              have h9 := hg9.block k (by have := HB8.size; simp; omega) (fun e => by have := (hown8.lt k e.symm).1; omega)
              exact (h9.trans (heap_alloc_old _ _ (by have := HB8.size; omega))).trans (HB8.block k hk)
            have hbx9 : BoxT w9 w.heap.size #[.int .i64 3, .string ⟨#[]⟩, .int .i64 vv, .int .i64 (pos1 : Int)] := by
              have h9 := hg9.block w.heap.size (by simp; omega) (fun e => by have := (hown8.lt _ e.symm).1; omega)
              exact (h9.trans (heap_alloc_old _ _ (by omega))).trans hbx8
            have hz9 : w.heap.size + 1 ≤ w9.heap.size := by have := hg9.size; simp at this; omega
            clear hg9 hown8 hbx8 hbc8 hbf8 HB8 hz8
            go_wp2
            go_step3
            apply And.intro rfl
            refine ⟨⟨pos2, f, toks ++ [(3, [], vv, (pos1 : Int))], v9, .int .i64 3, .string ⟨#[]⟩, .int .i64 vv, .int .i64 (pos1 : Int), rfl, by omega, by omega, ⟨?_⟩, hbx9, ?_, HB9, hz9, ?_⟩, ?_⟩
            · have h := HS.out
              have h2 := HL1.out
              subst h2
              rw [List.drop_drop, ← HP2.out] at h
              exact h
            · rw [List.length_append, toksCells_append]
              exact ho9
            · rw [List.length_append, List.length_singleton]
              omega
            · show s.size + 1 - ((pos2 : Nat) : Int).toNat < s.size + 1 - ((pos : Nat) : Int).toNat
              omega
        · have hdB : digitB ((Lib.decodeL L1).1 : Int) = false := by simpa using hd
          rw [if_neg hd] at hst
          rw [hdB] at hdig
          clear hd hdB hrdg
          by_cases hq : (Lib.decodeL L1).1 = 39
          · rw [if_pos hq] at hst
            have hqb : ((((Lib.decodeL L1).1 : Nat) : Int) == 39) = true := by rw [hq]; rfl
            have hql := quotL_le L1
            have hquo : ∀ W, Calls Tryd.prog 26 #[.string R1] W fun e w1 => e = .returned (.tuple #[.string ⟨(quotL L1).1.toArray⟩, .int .i64 ((quotL L1).2 : Nat)]) ∧ Below W.heap.size W w1 := fun W => by
              have h := quoted_any R1 W (by rw [HR1s.out]; omega)
              rw [HR1l.out] at h
              exact h
            obtain ⟨T, m, hTm⟩ : ∃ T m, quotL L1 = (T, m) := ⟨_, _, rfl⟩
            rw [hTm] at hst hql hquo
            simp only at hst hql hquo
            clear hq hTm
            go_upto_region 34 with (first | (go_at_call 22; refine (hlet _).mono ?_; rintro e w9 ⟨rfl, rfl⟩) | (go_at_call 24; refine (hdig _).mono ?_; rintro e w9 ⟨rfl, rfl⟩))
            obtain ⟨W5, hW5⟩ : ∃ W5, W5 = (W4).setCell ⟨w.heap.size, 0, none⟩ (.int .i64 4) := ⟨_, rfl⟩
            rw [← hW5]
            have HB5 : Below w.heap.size w W5 := by rw [hW5]; exact below_set HB4 (by simp) _
            have hz5 : w.heap.size + 1 ≤ W5.heap.size := by rw [hW5]; simpa using hz4
            have hbx5 : BoxT W5 w.heap.size #[.int .i64 4, .string ⟨#[]⟩, .int .i64 0, .int .i64 (pos1 : Int)] := by rw [hW5]; exact hbx4.put 0 _
            have hown5 : W5.ownsRow (w.heap.size + 1) 29 4 v toks.length (toksCells toks) := by rw [hW5]; exact own_offL (j := 0) (u := .int .i64 4) hown4 (Nat.lt_succ_self _)
            have hbc5 := hbx5.cells
            have hbf5 := hbx5.free
            clear hW5 hbx4 hbc4 hbf4 hown4 HB4 hz4
            go_wp2_with (go_at_call 26; refine (hquo _).mono ?_)
            first
              | (intro e W6 he hb1; subst he)
              | rintro e W6 ⟨rfl, hb1⟩
            have HB6 := below_then HB5 hb1
            have hbx6 := hbx5.kept hb1
            have hown6 := own_keptL hown5 hb1
            have hz6 : w.heap.size + 1 ≤ W6.heap.size := by have := hb1.size; omega
            have hbc6 := hbx6.cells
            have hbf6 := hbx6.free
            clear hb1 hbx5 hbc5 hbf5 hown5 HB5 hz5
            clear hquo hlet hdig
            go_upto_region 35 with (fail)
            obtain ⟨W7, hW7⟩ : ∃ W7, W7 = (W6).setCell ⟨w.heap.size, 1, none⟩ (.string ⟨T.toArray⟩) := ⟨_, rfl⟩
            rw [← hW7]
            have HB7 : Below w.heap.size w W7 := by rw [hW7]; exact below_set HB6 (by simp) _
            have hz7 : w.heap.size + 1 ≤ W7.heap.size := by rw [hW7]; simpa using hz6
            have hbx7 : BoxT W7 w.heap.size #[.int .i64 4, .string ⟨T.toArray⟩, .int .i64 0, .int .i64 (pos1 : Int)] := by rw [hW7]; exact hbx6.put 1 _
            have hown7 : W7.ownsRow (w.heap.size + 1) 29 4 v toks.length (toksCells toks) := by rw [hW7]; exact own_offL (j := 1) (u := .string ⟨T.toArray⟩) hown6 (Nat.lt_succ_self _)
            have hbc7 := hbx7.cells
            have hbf7 := hbx7.free
            clear hW7 hbx6 hbc6 hbf6 hown6 HB6 hz6
            by_cases hm0 : m = 0
            · subst hm0
              rw [if_pos rfl] at hst
              simp only [ne_eq, Int.reduceEq, not_false_eq_true, if_true] at hst
              have HS := Aside0.mk hst
              clear hst
              go_wp2
              first
                | go_ret3
                | (simp only [Exit.jump]; go_ret3)
              refine ⟨.slice none 0 0, ?_, ?_, HB7⟩
              · rw [← HS.out]
                rfl
              · rw [← HS.out]
                exact World.ownsRow_nil _ _ _ _
            · rw [if_neg hm0] at hst
              simp only [ne_eq, not_true_eq_false, if_false] at hst
              have hmi : (((m : Nat) : Int) == 0) = false := by rw [beq_eq_false_iff_ne]; omega
              have HS := Aside0.mk hst
              clear hst
              obtain ⟨pos2, hp2⟩ : ∃ p, p = pos1 + m := ⟨_, rfl⟩
              have hni : (pos1 : Int) + ((m : Nat) : Int) = (pos2 : Int) := by omega
              have hp2s : pos2 ≤ s.size := by omega
              have hp2i : (pos2 : Int) ≤ (s.size : Int) := by omega
              have hp2p : pos1 < pos2 := by omega
              have HP2 := Aside0.mk hp2
              clear hp2
              go_wp2_with (at_builtin; refine append_tok rfl (.tmp 100) (.tmp 102) rfl (w.heap.size + 1) _ _ _ rfl (hown7.alloc _) ⟨W7.heap.size, 0, none⟩ 1 1 [.int .i64 4, .string ⟨T.toArray⟩, .int .i64 0, .int .i64 (pos1 : Int)] rfl rfl ?c1 ?c2 ?c3 ?c4 ?c5 ?_)
              case c1 =>
                intro j u hj
                match j, hj with
                | 0, hj => simp at hj; subst hj; simp [Addr.add]
                | 1, hj => simp at hj; subst hj; simp [Addr.add]
                | 2, hj => simp at hj; subst hj; simp [Addr.add]
                | 3, hj => simp at hj; subst hj; simp [Addr.add]
                | (j + 4), hj => simp at hj
              case c2 => intro u hu; simp at hu; rcases hu with rfl | rfl | rfl | rfl <;> rfl
              case c3 => unfold maxLen; omega
              case c4 => omega
              case c5 => simp; omega
              intro v9 w9 ho9 hg9 _
              have HB9 : Below w.heap.size w w9 := by
                refine ⟨hg9.os.trans HB7.os, hg9.tape.trans HB7.tape, hg9.output.trans HB7.output, Nat.le_trans HB7.size (Nat.le_trans (by simp) hg9.size), fun k hk => ?_⟩
                have h9 := hg9.block k (by have := HB7.size; simp; omega) (fun e => by have := (hown7.lt k e.symm).1; omega)
                exact (h9.trans (heap_alloc_old _ _ (by have := HB7.size; omega))).trans (HB7.block k hk)
              have hbx9 : BoxT w9 w.heap.size #[.int .i64 4, .string ⟨T.toArray⟩, .int .i64 0, .int .i64 (pos1 : Int)] := by
                have h9 := hg9.block w.heap.size (by simp; omega) (fun e => by have := (hown7.lt _ e.symm).1; omega)
                exact (h9.trans (heap_alloc_old _ _ (by omega))).trans hbx7
              have hz9 : w.heap.size + 1 ≤ w9.heap.size := by have := hg9.size; simp at this; omega
              clear hg9 hown7 hbx7 hbc7 hbf7 HB7 hz7
              go_wp2
              go_step3
              apply And.intro rfl
              refine ⟨⟨pos2, f, toks ++ [(4, T, 0, (pos1 : Int))], v9, .int .i64 4, .string ⟨T.toArray⟩, .int .i64 0, .int .i64 (pos1 : Int), rfl, by omega, by omega, ⟨?_⟩, hbx9, ?_, HB9, hz9, ?_⟩, ?_⟩
              · have h := HS.out
                have h2 := HL1.out
                subst h2
                rw [List.drop_drop, ← HP2.out] at h
                exact h
              · rw [List.length_append, toksCells_append]
                exact ho9
              · rw [List.length_append, List.length_singleton]
                omega
              · show s.size + 1 - ((pos2 : Nat) : Int).toNat < s.size + 1 - ((pos : Nat) : Int).toNat
                omega
          · rw [if_neg hq] at hst
            have hqb : ((((Lib.decodeL L1).1 : Nat) : Int) == 39) = false := by rw [beq_eq_false_iff_ne]; omega
            have hgl := signL_le L1
            have hsg : ∀ W, Calls Tryd.prog 27 #[.string R1] W fun e w1 => e = .returned (.string ⟨(signL L1).toArray⟩) ∧ W = w1 := fun W => by
              have h := sign_any R1 W (by rw [HR1s.out]; omega) (by rw [HR1s.out]; omega)
              rw [HR1l.out] at h
              exact h
            generalize signL L1 = g at hst hgl hsg
            clear hq
            go_upto_region 15 with (first | (go_at_call 22; refine (hlet _).mono ?_; rintro e w9 ⟨rfl, rfl⟩) | (go_at_call 24; refine (hdig _).mono ?_; rintro e w9 ⟨rfl, rfl⟩) | (go_at_call 27; refine (hsg _).mono ?_; rintro e w9 ⟨rfl, rfl⟩))
            obtain ⟨W5, hW5⟩ : ∃ W5, W5 = ((W4).setCell ⟨w.heap.size, 0, none⟩ (.int .i64 5)).setCell ⟨w.heap.size, 1, none⟩ (.string ⟨g.toArray⟩) := ⟨_, rfl⟩
            rw [← hW5]
            have HB5 : Below w.heap.size w W5 := by rw [hW5]; exact below_set (below_set HB4 (by simp) _) (by simp) _
            have hz5 : w.heap.size + 1 ≤ W5.heap.size := by rw [hW5]; simpa using hz4
            have hbx5 : BoxT W5 w.heap.size #[.int .i64 5, .string ⟨g.toArray⟩, .int .i64 0, .int .i64 (pos1 : Int)] := by rw [hW5]; exact (hbx4.put 0 _).put 1 _
            have hown5 : W5.ownsRow (w.heap.size + 1) 29 4 v toks.length (toksCells toks) := by rw [hW5]; exact own_offL (j := 1) (u := .string ⟨g.toArray⟩) (own_offL (j := 0) (u := .int .i64 5) hown4 (Nat.lt_succ_self _)) (Nat.lt_succ_self _)
            have hbc5 := hbx5.cells
            have hbf5 := hbx5.free
            clear hW5 hbx4 hbc4 hbf4 hown4 HB4 hz4
            clear hsg hlet hdig
            by_cases hg0 : g = []
            · subst hg0
              rw [if_pos rfl] at hst
              simp only [ne_eq, Int.reduceEq, not_false_eq_true, if_true] at hst
              have HS := Aside0.mk hst
              clear hst
              go_wp2
              first
                | go_ret3
                | (simp only [Exit.jump]; go_ret3)
              refine ⟨.slice none 0 0, ?_, ?_, HB5⟩
              · rw [← HS.out]
                rfl
              · rw [← HS.out]
                exact World.ownsRow_nil _ _ _ _
            · rw [if_neg hg0] at hst
              simp only [ne_eq, not_true_eq_false, if_false] at hst
              have hgp : 1 ≤ g.length := List.length_pos_iff.2 hg0
              have hgi : (((g.length : Nat) : Int) == 0) = false := by rw [beq_eq_false_iff_ne]; omega
              clear hg0
              have HS := Aside0.mk hst
              clear hst
              obtain ⟨pos2, hp2⟩ : ∃ p, p = pos1 + g.length := ⟨_, rfl⟩
              have hni : (pos1 : Int) + ((g.length : Nat) : Int) = (pos2 : Int) := by omega
              have hp2s : pos2 ≤ s.size := by omega
              have hp2i : (pos2 : Int) ≤ (s.size : Int) := by omega
              have hp2p : pos1 < pos2 := by omega
              have HP2 := Aside0.mk hp2
              clear hp2
              go_wp2_with (at_builtin; refine append_tok rfl (.tmp 100) (.tmp 102) rfl (w.heap.size + 1) _ _ _ rfl (hown5.alloc _) ⟨W5.heap.size, 0, none⟩ 1 1 [.int .i64 5, .string ⟨g.toArray⟩, .int .i64 0, .int .i64 (pos1 : Int)] rfl rfl ?c1 ?c2 ?c3 ?c4 ?c5 ?_)
              case c1 =>
                intro j u hj
                match j, hj with
                | 0, hj => simp at hj; subst hj; simp [Addr.add]
                | 1, hj => simp at hj; subst hj; simp [Addr.add]
                | 2, hj => simp at hj; subst hj; simp [Addr.add]
                | 3, hj => simp at hj; subst hj; simp [Addr.add]
                | (j + 4), hj => simp at hj
              case c2 => intro u hu; simp at hu; rcases hu with rfl | rfl | rfl | rfl <;> rfl
              case c3 => unfold maxLen; omega
              case c4 => omega
              case c5 => simp; omega
              intro v9 w9 ho9 hg9 _
              have HB9 : Below w.heap.size w w9 := by
                refine ⟨hg9.os.trans HB5.os, hg9.tape.trans HB5.tape, hg9.output.trans HB5.output, Nat.le_trans HB5.size (Nat.le_trans (by simp) hg9.size), fun k hk => ?_⟩
                have h9 := hg9.block k (by have := HB5.size; simp; omega) (fun e => by have := (hown5.lt k e.symm).1; omega)
                exact (h9.trans (heap_alloc_old _ _ (by have := HB5.size; omega))).trans (HB5.block k hk)
              have hbx9 : BoxT w9 w.heap.size #[.int .i64 5, .string ⟨g.toArray⟩, .int .i64 0, .int .i64 (pos1 : Int)] := by
                have h9 := hg9.block w.heap.size (by simp; omega) (fun e => by have := (hown5.lt _ e.symm).1; omega)
                exact (h9.trans (heap_alloc_old _ _ (by omega))).trans hbx5
              have hz9 : w.heap.size + 1 ≤ w9.heap.size := by have := hg9.size; simp at this; omega
              clear hg9 hown5 hbx5 hbc5 hbf5 HB5 hz5
              go_wp2
              go_step3
              apply And.intro rfl
              refine ⟨⟨pos2, f, toks ++ [(5, g, 0, (pos1 : Int))], v9, .int .i64 5, .string ⟨g.toArray⟩, .int .i64 0, .int .i64 (pos1 : Int), rfl, by omega, by omega, ⟨?_⟩, hbx9, ?_, HB9, hz9, ?_⟩, ?_⟩
              · have h := HS.out
                have h2 := HL1.out
                subst h2
                rw [List.drop_drop, ← HP2.out] at h
                exact h
              · rw [List.length_append, toksCells_append]
                exact ho9
              · rw [List.length_append, List.length_singleton]
                omega
              · show s.size + 1 - ((pos2 : Nat) : Int).toNat < s.size + 1 - ((pos : Nat) : Int).toNat
                omega
end Go.Proofs.YtokhbjagcnjiaaaDoor
