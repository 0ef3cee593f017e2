/- The reference's Lex is lexL. -/
import Derived.Test.YtokhbjagcnjiaaaDoorLxR9
set_option linter.unusedVariables false
set_option linter.unusedSimpArgs false
namespace Go.Proofs.YtokhbjagcnjiaaaDoor
open Go.RowKit

/-- An append of one word to an own row. -/
theorem append_tok1 {w0 wr : World} {ops : Array Oper} {rest : List Oper} {o : Oper} {a : Act} {Q : Exit → Act → World → Prop} (hgd : o.guard = none) (s x : Operand)
    (ho : o.op = .call { callee := .builtin .append, args := #[s, x], argTypes := #[23, 23] }) (B : Nat)
    (v : Value) (n : Nat) (xs : List Value) (hs : a.eval s = v) (hown : wr.ownsRow B 29 4 v n xs) (k : Int) (t : ByteArray) (i p : Int) (g : Nat) (hg : g = wr.heap.size) (hx : a.eval x = .slice (some ⟨g, 0, none⟩) 1 1)
    (hn : n ≤ 1000000) (hB : B ≤ w0.heap.size) (hb : Below B w0 wr)
    (h : ∀ v' w', w'.ownsRow B 29 4 v' (n + 1) (xs ++ [.int .i64 k, .string t, .int .i64 i, .int .i64 p]) → Below B w0 w' → wpList Tryd.prog ops Q rest (a.put o.dst v') w') :
    wpList Tryd.prog ops Q (o :: rest) a (wr.alloc (.cells #[.int .i64 k, .string t, .int .i64 i, .int .i64 p] 29)) := by
  have hsz := hb.size
  subst hg
  refine append_tok hgd s x ho B v n xs hs (hown.alloc _) ⟨wr.heap.size, 0, none⟩ 1 1 [.int .i64 k, .string t, .int .i64 i, .int .i64 p] hx rfl ?c1 ?c2 ?c3 ?c4 ?c5 ?_
  case c1 =>
    intro j u hj
    match j, hj with
    | 0, hj => simp at hj; subst hj; simp [Addr.add]
    | 1, hj => simp at hj; subst hj; simp [Addr.add]
    | 2, hj => simp at hj; subst hj; simp [Addr.add]
    | 3, hj => simp at hj; subst hj; simp [Addr.add]
    | (j + 4), hj => simp at hj
  case c2 => intro u hu; simp at hu; rcases hu with rfl | rfl | rfl | rfl <;> rfl
  case c3 => unfold maxLen; omega
  case c4 => omega
  case c5 => simp; omega
  intro v' w2 ho1 hg1 _
  exact h v' w2 ho1 (below_grow (hb.alloc (by omega) _) hB hg1 (fun k e => (hown.lt k e).1))
theorem blank_same (b : UInt8) (t : List UInt8) : blankB (Lib.decodeL (b :: t)).1 = blankB ((b.toNat : Nat) : Int) := by
  by_cases h : b.toNat < 128
  · rw [Lib.decodeL_ascii b t h]
  · have := decodeL_high b t h
    have e1 : blankB ((b.toNat : Nat) : Int) = false := by simp [blankB]; omega
    have e2 : blankB ((Lib.decodeL (b :: t)).1 : Int) = false := by simp [blankB]; omega
    rw [e1, e2]
theorem lexF_word (f a : Nat) (acc : List Tok) (b : UInt8) (t : List UInt8) (h : blankB ((b.toNat : Nat) : Int) = false) :
    lexF (f + 1) a acc (b :: t) = if (wordL (b :: t) (a : Int)).1 ≠ 0 then ([], a, (wordL (b :: t) (a : Int)).1) else lexF f (a + (wordL (b :: t) (a : Int)).2.2) (acc ++ [(wordL (b :: t) (a : Int)).2.1]) ((b :: t).drop (wordL (b :: t) (a : Int)).2.2) := by
  have hr : runL blankB (b :: t).length (b :: t) = 0 := by
    rw [List.length_cons, runL_ne _ _ _ (by simp), blank_same, h, if_neg (by simp)]
  rw [lexF, hr]
  simp only [List.drop_zero, Nat.add_zero]
  rw [if_neg (by simp)]

set_option maxRecDepth 100000 in
set_option maxHeartbeats 8000000 in
theorem rlex_ok (s : ByteArray) (w : World) (hs : s.size ≤ 4096) (hU : Lib.Utf8Tabs 1 2 w) :
    Calls Tryd.prog 14 #[.string s] w fun e w' => ∃ v, e = .returned (.tuple #[v, .int .i64 ((lexL s.data.toList).2.1 : Nat), .int .i64 (lexL s.data.toList).2.2]) ∧ w'.ownsRow w.heap.size 29 4 v (lexL s.data.toList).1.length (toksCells (lexL s.data.toList).1) ∧ Below w.heap.size w w' := by
  have hls : s.data.toList.length = s.size := rfl
  obtain ⟨ANS, hANS⟩ : ∃ ANS, ANS = lexL s.data.toList := ⟨_, rfl⟩
  rw [← hANS]
  rw [lexL, if_neg (by omega), hls] at hANS
  have HA := Aside0.mk hANS
  have HU := Aside0.mk hU
  have HLS := Aside0.mk hls
  have hget : ∀ k (h : k < s.size) W, (Instr.index 9 (.string s) (.int .i64 (k : Int))).run Tryd.prog W = .ok (.int .u8 (((s[k]'h).toNat : Nat) : Int)) W := by
    intro k h W
    rw [run_index_string W 9 s .i64 k Tryd.underlying9, dif_pos ⟨by omega, by omega⟩]
    rfl
  have hds : ∀ k (h : k < s.size), s.data.toList.drop k = (s[k]'h) :: s.data.toList.drop (k + 1) := fun k h => List.drop_eq_getElem_cons (l := s.data.toList) h
  have HG := Aside0.mk hget
  have HD := Aside0.mk hds
  clear hANS hU hls hget hds
  have hsi : (s.size : Int) ≤ 4096 := by omega
  go_enter Tryd.func14, Tryd.ntmps14
  go_wp2
  go_loopg [5, 6] (s.size + 1) (fun gk v5 v6 wr => ∃ (p fuel : Nat) (toks : List Tok), v6 = .int .i64 p ∧ p ≤ s.size ∧ s.size < gk + p ∧ s.size < p + fuel ∧ toks.length ≤ p ∧ wr.ownsRow w.heap.size 29 4 v5 toks.length (toksCells toks) ∧ Below w.heap.size w wr ∧ Aside0 (lexF fuel p toks (s.data.toList.drop p) = ANS))
  case atStart => exact ⟨0, s.size + 1, [], rfl, by omega, by omega, by omega, by simp, World.ownsRow_nil _ _ _ _, Below.refl _ _, ⟨HA.out.symm⟩⟩
  case round =>
    obtain ⟨p, fuel, toks, rfl, hps, hg, hfu, htl, ho, HB, HV⟩ := hrel
    have hc5 := HB.size
    obtain ⟨f, rfl⟩ : ∃ f, fuel = f + 1 := ⟨fuel - 1, by omega⟩
    have hpi : (p : Int) ≤ (s.size : Int) := by omega
    have hp0 : (0 : Int) ≤ (p : Int) := by omega
    by_cases hp : p < s.size
    · have hgp := HG.out p hp
      have hst := HV.out
      have hpi2 : (p : Int) < (s.size : Int) := by omega
      have hne : s.data.toList.drop p ≠ [] := drop_ne hp
      cases hbl : blankB ((((s[p]'hp)).toNat : Nat) : Int)
      · have hdp := HD.out p hp
        rw [hdp, lexF_word _ _ _ _ _ hbl, ← hdp] at hst
        have hwn := wordL_n (s.data.toList.drop p) (p : Int) hne
        obtain ⟨R, hR⟩ : ∃ R, wordL (s.data.toList.drop p) (p : Int) = R := ⟨_, rfl⟩
        rw [hR] at hst hwn
        obtain ⟨c, ⟨k, x, v, q⟩, n⟩ := R
        have hwd : ∀ W, Below w.heap.size w W → Calls Tryd.prog 29 #[.string s, .int .i64 (p : Nat)] W fun e w' => e = .returned (.tuple #[.agg #[.int .i64 k, .string ⟨x.toArray⟩, .int .i64 v, .int .i64 q], .int .i64 n, .int .i64 c]) ∧ Below W.heap.size W w' := fun W hW => rword_any s p W hs hp (utabs_keep HU.out hW) c n k v q x hR
        simp only at hst hwn
        have n32 : (((s[p]'hp).toNat : Int) == 32) = false := by rw [beq_eq_false_iff_ne]; intro e; rw [e] at hbl; revert hbl; decide
        have n9 : (((s[p]'hp).toNat : Int) == 9) = false := by rw [beq_eq_false_iff_ne]; intro e; rw [e] at hbl; revert hbl; decide
        have n10 : (((s[p]'hp).toNat : Int) == 10) = false := by rw [beq_eq_false_iff_ne]; intro e; rw [e] at hbl; revert hbl; decide
        have n13 : (((s[p]'hp).toNat : Int) == 13) = false := by rw [beq_eq_false_iff_ne]; intro e; rw [e] at hbl; revert hbl; decide
        have hll : (s.data.toList.drop p).length = s.size - p := by rw [List.length_drop, HLS.out]
        rw [List.drop_drop] at hst
        rw [hll] at hwn
        clear hbl hdp hR HV hll hne
        generalize s[p]'hp = b at hgp n32 n9 n10 n13
        by_cases hc : c = 0
        · subst hc
          rw [if_neg (by simp)] at hst
          obtain ⟨hn1, hn2⟩ := hwn rfl
          have HS := Aside0.mk hst
          have hni : (p : Int) + (n : Int) ≤ 4096 := by omega
          have hn4 : (n : Int) ≤ 4096 := by omega
          clear hst hwn
          go_wp2_with (go_at_call 29; refine (hwd _ (by first | exact HB | exact below_more HB _)).mono ?_)
          first
            | (intro e W2 he hb2; subst he)
            | rintro e W2 ⟨rfl, hb2⟩
          have HB2 := below_then HB hb2
          have ho2 := own_keptL ho hb2
          clear hb2 ho HB hwd hgp
          go_wp2_with (at_builtin; go_loud (refine append_tok1 rfl (.tmp 52) (.tmp 54) rfl w.heap.size _ _ _ rfl (ho2.alloc _) k ⟨x.toArray⟩ v q _ (by simp) rfl (by omega) (Nat.le_refl _) (below_more HB2 _) ?_))
          intro v' w3 ho3 HB3
          clear ho2 HB2
          go_wp2
          go_roundg (gk - 1)
          case measure => omega
          case rel => exact ⟨p + n, f, toks ++ [(k, x, v, q)], by go_num, by omega, by omega, by omega, by simp; omega, by rw [List.length_append, toksCells_append]; exact ho3, HB3, HS⟩
        · rw [if_pos hc] at hst
          have hcb : ((c : Int) == 0) = false := by rw [beq_eq_false_iff_ne]; exact hc
          subst hst
          clear hwn HA
          go_wp2_with (go_at_call 29; refine (hwd _ (by first | exact HB | exact below_more HB _)).mono ?_)
          first
            | (intro e W2 he hb2; subst he)
            | rintro e W2 ⟨rfl, hb2⟩
          have HB2 := below_then HB hb2
          clear hb2
          go_wp2
          go_ret3
          exact ⟨_, rfl, World.ownsRow_nil _ _ _ _, below_more HB2 _⟩
      · have hdp := HD.out p hp
        have hb32 : (s[p]'hp) = 32 ∨ (s[p]'hp) = 9 ∨ (s[p]'hp) = 10 ∨ (s[p]'hp) = 13 := by
          have h := hbl
          simp [blankB] at h
          rcases h with ((h | h) | h) | h
          · exact .inl (UInt8.toNat.inj (by show (s[p]'hp).toNat = 32; omega))
          · exact .inr (.inl (UInt8.toNat.inj (by show (s[p]'hp).toNat = 9; omega)))
          · exact .inr (.inr (.inl (UInt8.toNat.inj (by show (s[p]'hp).toNat = 10; omega))))
          · exact .inr (.inr (.inr (UInt8.toNat.inj (by show (s[p]'hp).toNat = 13; omega))))
        have hlo : (s[p]'hp).toNat < 128 := by rcases hb32 with h | h | h | h <;> (rw [h]; decide)
        rw [hdp, lexF_blank _ hlo hbl] at hst
        have HS := Aside0.mk hst
        clear hst HV hbl hdp hlo
        generalize s[p]'hp = c at hgp hb32 HS
        rcases hb32 with rfl | rfl | rfl | rfl
        · replace hgp : ∀ W, (Instr.index 9 (.string s) (.int .i64 (p : Int))).run Tryd.prog W = .ok (.int .u8 32) W := hgp
          go_wp2
          go_roundg (gk - 1)
          case measure => omega
          case rel => exact ⟨p + 1, f + 1, toks, by go_num, by omega, by omega, by omega, by omega, ho, HB, HS⟩
        · replace hgp : ∀ W, (Instr.index 9 (.string s) (.int .i64 (p : Int))).run Tryd.prog W = .ok (.int .u8 9) W := hgp
          go_wp2
          go_roundg (gk - 1)
          case measure => omega
          case rel => exact ⟨p + 1, f + 1, toks, by go_num, by omega, by omega, by omega, by omega, ho, HB, HS⟩
        · replace hgp : ∀ W, (Instr.index 9 (.string s) (.int .i64 (p : Int))).run Tryd.prog W = .ok (.int .u8 10) W := hgp
          go_wp2
          go_roundg (gk - 1)
          case measure => omega
          case rel => exact ⟨p + 1, f + 1, toks, by go_num, by omega, by omega, by omega, by omega, ho, HB, HS⟩
        · replace hgp : ∀ W, (Instr.index 9 (.string s) (.int .i64 (p : Int))).run Tryd.prog W = .ok (.int .u8 13) W := hgp
          go_wp2
          go_roundg (gk - 1)
          case measure => omega
          case rel => exact ⟨p + 1, f + 1, toks, by go_num, by omega, by omega, by omega, by omega, ho, HB, HS⟩
    · have hpi2 : ¬ (p : Int) < (s.size : Int) := by omega
      have hst := HV.out
      rw [show s.data.toList.drop p = [] from List.drop_eq_nil_of_le (by have := HLS.out; omega), lexF, List.drop_nil, if_pos rfl] at hst
      subst hst
      clear HV hp HA
      go_wp2
      go_ret3
      exact ⟨_, rfl, ho, HB⟩
set_option maxRecDepth 100000 in
set_option maxHeartbeats 1600000 in
theorem rlex_big (s : ByteArray) (w : World) (hb : 4096 < s.size) (hs : s.size ≤ 9223372036854775807) :
    Calls Tryd.prog 14 #[.string s] w fun e w' => e = .returned (.tuple #[.slice none 0 0, .int .i64 0, .int .i64 2]) ∧ Below w.heap.size w w' := by
  have hbi : (4096 : Int) < (s.size : Int) := by omega
  clear hb
  go_enter Tryd.func14, Tryd.ntmps14
  go_wp2
  go_ret3
  exact ⟨rfl, Below.refl _ _⟩
/-- The reference's Lex of any text. -/
theorem rlex_any (s : ByteArray) (w : World) (hs : s.size ≤ 9223372036854775807) (hU : Lib.Utf8Tabs 1 2 w) :
    Calls Tryd.prog 14 #[.string s] w fun e w' => ∃ v, e = .returned (.tuple #[v, .int .i64 ((lexL s.data.toList).2.1 : Nat), .int .i64 (lexL s.data.toList).2.2]) ∧ w'.ownsRow w.heap.size 29 4 v (lexL s.data.toList).1.length (toksCells (lexL s.data.toList).1) ∧ Below w.heap.size w w' := by
  by_cases hb : s.size ≤ 4096
  · exact rlex_ok s w hb hU
  · have hls : s.data.toList.length = s.size := rfl
    have e : lexL s.data.toList = ([], 0, 2) := by rw [lexL, if_pos (by omega)]
    refine (rlex_big s w (by omega) hs).mono ?_
    rintro e1 w1 ⟨rfl, hB⟩
    rw [e]
    exact ⟨_, rfl, World.ownsRow_nil _ _ _ _, hB⟩
end Go.Proofs.YtokhbjagcnjiaaaDoor
