/- The document's Quoted: a text between quotes, byte by byte. -/
import Derived.Test.YtkchpgjjkckfbaaDoorBRow
import Derived.Test.YtkchpgjjkckfbaaDoorQuoP
import Derived.Deep.LoopGhost
set_option linter.unusedVariables false
set_option linter.unusedSimpArgs false
namespace Go.Proofs.YtkchpgjjkckfbaaDoor
open Go.RowKit

/-- Between quotes, byte by byte. -/
def quoR (l : List UInt8) : List UInt8 := 39 :: (qtext l ++ [39])

set_option maxRecDepth 100000 in
set_option maxHeartbeats 4000000 in
theorem rquo_any (s : ByteArray) (w : World) (hs : s.size ≤ 1048576) :
    Calls Tryd.prog 97 #[.string s] w fun e w' => e = .returned (.string ⟨(quoR s.data.toList).toArray⟩) ∧ Below w.heap.size w w' := by
  obtain ⟨i0, hi, hz0, hz1, hz2⟩ := info_parts info_u8
  obtain ⟨l, hl⟩ : ∃ l, l = s.data.toList := ⟨_, rfl⟩
  have hls : l.length = s.size := by rw [hl]; rfl
  rw [← hl]
  have hget : ∀ k (h : k < l.length) W, (Instr.index 9 (.string s) (.int .i64 (k : Int))).run Tryd.prog W = .ok (.int .u8 ((l.getD k 0).toNat : Int)) W := by
    intro k h W
    rw [run_index_string W 9 s .i64 k Tryd.underlying9, dif_pos ⟨by omega, by omega⟩]
    have hg : l.getD k 0 = s[k]'(by omega) := by have hk : k < s.data.size := (by show k < s.size; omega); subst hl; show _ = s.data[k]'hk; simp only [List.getD, Array.getElem?_toList]; rw [Array.getElem?_eq_getElem hk]; rfl
    rw [hg]
    rfl
  have htk : ∀ k (h : k < l.length), qtext (l.take (k + 1)) = qtext (l.take k) ++ qbyte (l.getD k 0) := by
    intro k h
    rw [List.take_add_one, qtext_append]
    simp [List.getD, h, qtext]
  have hql : ∀ k, (qtext (l.take k)).length ≤ 2 * l.length := fun k => by
    have := qtext_length (l.take k)
    rw [List.length_take] at this
    omega
  have HG := Aside0.mk hget
  have HT := Aside0.mk htk
  have HQ := Aside0.mk hql
  clear hl hget htk hql
  go_enter Tryd.func97, Tryd.ntmps97
  go_wp2
  go_loopg [3, 4] (s.size + 1) (fun gg s3 s4 wr => ∃ k : Nat, k ≤ s.size ∧ s.size < gg + k ∧ s4 = .int .i64 (k : Int) ∧ wr.ownsRow w.heap.size 5 1 s3 ((qtext (l.take k)).length + 1) (Lib.byteCells (39 :: qtext (l.take k))) ∧ Below w.heap.size w wr)
  case atStart => exact ⟨0, by omega, by omega, rfl, by simpa [qtext, Lib.byteCells] using own_one w w.heap.size (.int .u8 39) (Nat.le_refl _), (Below.refl _ w).alloc (Nat.le_refl _) _⟩
  case round =>
    obtain ⟨k, hk, hg, rfl, ho, HB⟩ := hrel
    have hqk := HQ.out k
    have hc5 := HB.size
    by_cases hlt : k < s.size
    · have hgk := HG.out k (by omega)
      have hnew := HT.out k (by omega)
      generalize l.getD k 0 = c at hgk hnew
      by_cases h39 : c = 39
      · subst h39
        have hqb : qbyte 39 = [92, 39] := by decide
        replace hgk : ∀ W, (Instr.index 9 (.string s) (.int .i64 (k : Int))).run Tryd.prog W = .ok (.int .u8 39) W := hgk
        go_wp2_with (at_builtin; refine wpList_append_own _ rfl (.tmp 24) (.tmp 28) 48 rfl w.heap.size 5 i0 (.int .u8 0) 1 1 Tryd.underlying48 hi hz0 hz1 hz2 rfl (by decide) _ _ _ rfl (ho.alloc _) ⟨wr.heap.size, 0, none⟩ 2 2 [.int .u8 92, .int .u8 39] rfl rfl ?c1 ?c2 ?c3 ?c4 ?c5 ?_)
        case c1 =>
          intro j u hj
          match j, hj with
          | 0, hj => simp at hj; subst hj; simp [Addr.add]
          | 1, hj => simp at hj; subst hj; simp [Addr.add]
          | (j + 2), hj => simp at hj
        case c2 => intro u hu; simp at hu; rcases hu with rfl | rfl <;> rfl
        case c3 => unfold maxLen; omega
        case c4 => omega
        case c5 => simp; omega
        intro v' w2 ho1 hg1 _
        have HB1 : Below w.heap.size w w2 := below_grow (HB.alloc hc5 _) (Nat.le_refl _) hg1 (fun k e => (ho.lt k e).1)
        have ho2 : w2.ownsRow w.heap.size 5 1 v' ((qtext (l.take (k + 1))).length + 1) (Lib.byteCells (39 :: qtext (l.take (k + 1)))) := by
          have e : Lib.byteCells (39 :: qtext (l.take (k + 1))) = Lib.byteCells (39 :: qtext (l.take k)) ++ [.int .u8 92, .int .u8 39] := by rw [hnew, hqb, ← List.cons_append, Lib.byteCells_append]; rfl
          have e2 : (qtext (l.take (k + 1))).length + 1 = (qtext (l.take k)).length + 1 + 2 := by rw [hnew, hqb, List.length_append]; first | done | omega | (simp; done) | (simp; omega)
          rw [e, e2]
          exact ho1
        clear ho1 hg1 ho HB
        go_wp2
        go_roundg (gk - 1)
        case measure => omega
        case rel => exact ⟨k + 1, by omega, by omega, by go_num, ho2, HB1⟩
      by_cases h92 : c = 92
      · subst h92
        have hqb : qbyte 92 = [92, 92] := by decide
        replace hgk : ∀ W, (Instr.index 9 (.string s) (.int .i64 (k : Int))).run Tryd.prog W = .ok (.int .u8 92) W := hgk
        go_wp2_with (at_builtin; refine wpList_append_own _ rfl (.tmp 24) (.tmp 28) 48 rfl w.heap.size 5 i0 (.int .u8 0) 1 1 Tryd.underlying48 hi hz0 hz1 hz2 rfl (by decide) _ _ _ rfl (ho.alloc _) ⟨wr.heap.size, 0, none⟩ 2 2 [.int .u8 92, .int .u8 92] rfl rfl ?c1 ?c2 ?c3 ?c4 ?c5 ?_)
        case c1 =>
          intro j u hj
          match j, hj with
          | 0, hj => simp at hj; subst hj; simp [Addr.add]
          | 1, hj => simp at hj; subst hj; simp [Addr.add]
          | (j + 2), hj => simp at hj
        case c2 => intro u hu; simp at hu; rcases hu with rfl | rfl <;> rfl
        case c3 => unfold maxLen; omega
        case c4 => omega
        case c5 => simp; omega
        intro v' w2 ho1 hg1 _
        have HB1 : Below w.heap.size w w2 := below_grow (HB.alloc hc5 _) (Nat.le_refl _) hg1 (fun k e => (ho.lt k e).1)
        have ho2 : w2.ownsRow w.heap.size 5 1 v' ((qtext (l.take (k + 1))).length + 1) (Lib.byteCells (39 :: qtext (l.take (k + 1)))) := by
          have e : Lib.byteCells (39 :: qtext (l.take (k + 1))) = Lib.byteCells (39 :: qtext (l.take k)) ++ [.int .u8 92, .int .u8 92] := by rw [hnew, hqb, ← List.cons_append, Lib.byteCells_append]; rfl
          have e2 : (qtext (l.take (k + 1))).length + 1 = (qtext (l.take k)).length + 1 + 2 := by rw [hnew, hqb, List.length_append]; first | done | omega | (simp; done) | (simp; omega)
          rw [e, e2]
          exact ho1
        clear ho1 hg1 ho HB
        go_wp2
        go_roundg (gk - 1)
        case measure => omega
        case rel => exact ⟨k + 1, by omega, by omega, by go_num, ho2, HB1⟩
      by_cases h10 : c = 10
      · subst h10
        have hqb : qbyte 10 = [92, 110] := by decide
        replace hgk : ∀ W, (Instr.index 9 (.string s) (.int .i64 (k : Int))).run Tryd.prog W = .ok (.int .u8 10) W := hgk
        go_wp2_with (at_builtin; refine wpList_append_own _ rfl (.tmp 32) (.tmp 33) 48 rfl w.heap.size 5 i0 (.int .u8 0) 1 1 Tryd.underlying48 hi hz0 hz1 hz2 rfl (by decide) _ _ _ rfl (ho.alloc _) ⟨wr.heap.size, 0, none⟩ 2 2 [.int .u8 92, .int .u8 110] rfl rfl ?c1 ?c2 ?c3 ?c4 ?c5 ?_)
        case c1 =>
          intro j u hj
          match j, hj with
          | 0, hj => simp at hj; subst hj; simp [Addr.add]
          | 1, hj => simp at hj; subst hj; simp [Addr.add]
          | (j + 2), hj => simp at hj
        case c2 => intro u hu; simp at hu; rcases hu with rfl | rfl <;> rfl
        case c3 => unfold maxLen; omega
        case c4 => omega
        case c5 => simp; omega
        intro v' w2 ho1 hg1 _
        have HB1 : Below w.heap.size w w2 := below_grow (HB.alloc hc5 _) (Nat.le_refl _) hg1 (fun k e => (ho.lt k e).1)
        have ho2 : w2.ownsRow w.heap.size 5 1 v' ((qtext (l.take (k + 1))).length + 1) (Lib.byteCells (39 :: qtext (l.take (k + 1)))) := by
          have e : Lib.byteCells (39 :: qtext (l.take (k + 1))) = Lib.byteCells (39 :: qtext (l.take k)) ++ [.int .u8 92, .int .u8 110] := by rw [hnew, hqb, ← List.cons_append, Lib.byteCells_append]; rfl
          have e2 : (qtext (l.take (k + 1))).length + 1 = (qtext (l.take k)).length + 1 + 2 := by rw [hnew, hqb, List.length_append]; first | done | omega | (simp; done) | (simp; omega)
          rw [e, e2]
          exact ho1
        clear ho1 hg1 ho HB
        go_wp2
        go_roundg (gk - 1)
        case measure => omega
        case rel => exact ⟨k + 1, by omega, by omega, by go_num, ho2, HB1⟩
      have hqb : qbyte c = [c] := by unfold qbyte; rw [if_neg (by simp [h39, h92]), if_neg h10]
      have n39 : ((c.toNat : Int) == 39) = false := by
        rw [beq_eq_false_iff_ne]; intro e; exact h39 (UInt8.toNat.inj (by show c.toNat = 39; omega))
      have n92 : ((c.toNat : Int) == 92) = false := by
        rw [beq_eq_false_iff_ne]; intro e; exact h92 (UInt8.toNat.inj (by show c.toNat = 92; omega))
      have n10 : ((c.toNat : Int) == 10) = false := by
        rw [beq_eq_false_iff_ne]; intro e; exact h10 (UInt8.toNat.inj (by show c.toNat = 10; omega))
      go_wp2_with (at_builtin; refine wpList_append_own _ rfl (.tmp 15) (.tmp 19) 48 rfl w.heap.size 5 i0 (.int .u8 0) 1 1 Tryd.underlying48 hi hz0 hz1 hz2 rfl (by decide) _ _ _ rfl (ho.alloc _) ⟨wr.heap.size, 0, none⟩ 1 1 [.int .u8 (c.toNat : Int)] rfl rfl ?c1 ?c2 ?c3 ?c4 ?c5 ?_)
      case c1 =>
        intro j u hj
        match j, hj with
        | 0, hj => simp at hj; subst hj; simp [Addr.add]
      case c2 => intro u hu; simp at hu; subst hu; rfl
      case c3 => unfold maxLen; omega
      case c4 => omega
      case c5 => simp; omega
      intro v' w2 ho1 hg1 _
      have HB1 : Below w.heap.size w w2 := below_grow (HB.alloc hc5 _) (Nat.le_refl _) hg1 (fun k e => (ho.lt k e).1)
      have ho2 : w2.ownsRow w.heap.size 5 1 v' ((qtext (l.take (k + 1))).length + 1) (Lib.byteCells (39 :: qtext (l.take (k + 1)))) := by
        have e : Lib.byteCells (39 :: qtext (l.take (k + 1))) = Lib.byteCells (39 :: qtext (l.take k)) ++ [.int .u8 (c.toNat : Int)] := by rw [hnew, hqb, ← List.cons_append, Lib.byteCells_append]; rfl
        have e2 : (qtext (l.take (k + 1))).length + 1 = (qtext (l.take k)).length + 1 + 1 := by rw [hnew, hqb, List.length_append]; first | done | omega | (simp; done) | (simp; omega)
        rw [e, e2]
        exact ho1
      clear ho1 hg1 ho HB
      go_wp2
      go_roundg (gk - 1)
      case measure => omega
      case rel => exact ⟨k + 1, by omega, by omega, by go_num, ho2, HB1⟩
    · have hke : l.take k = l := List.take_of_length_le (by omega)
      rw [hke] at ho hqk
      have hqa := HQ.out l.length
      rw [List.take_length] at hqa
      go_wp2_with (at_builtin; refine wpList_append_own _ rfl (.tmp 35) (.tmp 36) 48 rfl w.heap.size 5 i0 (.int .u8 0) 1 1 Tryd.underlying48 hi hz0 hz1 hz2 rfl (by decide) _ _ _ rfl (ho.alloc _) ⟨wr.heap.size, 0, none⟩ 1 1 [.int .u8 39] rfl rfl ?c1 ?c2 ?c3 ?c4 ?c5 ?_)
      case c1 =>
        intro j u hj
        match j, hj with
        | 0, hj => simp at hj; subst hj; simp [Addr.add]
      case c2 => intro u hu; simp at hu; subst hu; rfl
      case c3 => unfold maxLen; omega
      case c4 => omega
      case c5 => simp; omega
      intro v' w2 ho1 hg1 _
      have HB1 : Below w.heap.size w w2 := below_grow (HB.alloc hc5 _) (Nat.le_refl _) hg1 (fun k e => (ho.lt k e).1)
      have e : Lib.byteCells (quoR l) = Lib.byteCells (39 :: qtext l) ++ [.int .u8 39] := by rw [quoR, ← List.cons_append, Lib.byteCells_append]; rfl
      have ho2 : w2.ownsRow w.heap.size 5 1 v' (Lib.byteCells (quoR l)).length (Lib.byteCells (quoR l)) := by
        have e2 : (Lib.byteCells (quoR l)).length = (qtext l).length + 1 + 1 := by rw [Lib.byteCells_length]; simp [quoR]
        rw [e2, e]
        exact ho1
      clear ho1 hg1 ho HB e
      have hcv := conv_str ho2 (allU8_bytes _)
      rw [strOf_bytes] at hcv
      go_wp2
      go_ret
      exact ⟨rfl, HB1⟩
end Go.Proofs.YtkchpgjjkckfbaaDoor
