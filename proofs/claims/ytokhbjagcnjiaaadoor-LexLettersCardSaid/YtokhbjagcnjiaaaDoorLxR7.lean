/- The reference's text: what stands between quotes, byte by byte. -/
import Derived.Test.YtokhbjagcnjiaaaDoorBRow
import Derived.Test.YtokhbjagcnjiaaaDoorLxR4
import Derived.Test.YtokhbjagcnjiaaaDoorLxBig
import Derived.Test.YtokhbjagcnjiaaaDoorShelfV
import Derived.Shelf.Unicode.ValidAny
set_option linter.unusedVariables false
set_option linter.unusedSimpArgs false
namespace Go.Proofs.YtokhbjagcnjiaaaDoor
open Go.RowKit Go.Shelf

/-- The text that is read behind the first n bytes of a text that begins with a quote; how many bytes; 0: there is none. -/
def textR (L : List UInt8) : List UInt8 → Nat → List UInt8 → List UInt8 × Nat
  | [], _, _ => ([], 0)
  | c :: t, n, acc =>
    if c = 39 then (if Lib.validD (L.take n) then (acc, n + 1) else ([], 0))
    else if c = 92 then
      (match t with
      | [] => ([], 0)
      | d :: t' => if d = 39 ∨ d = 92 then textR L t' (n + 2) (acc ++ [d]) else if d = 110 then textR L t' (n + 2) (acc ++ [10]) else ([], 0))
    else textR L t (n + 1) (acc ++ [c])
theorem textR_nil (L : List UInt8) (n : Nat) (acc : List UInt8) : textR L [] n acc = ([], 0) := by rw [textR.eq_def]
theorem textR_cons (L t : List UInt8) (c : UInt8) (n : Nat) (acc : List UInt8) : textR L (c :: t) n acc =
    if c = 39 then (if Lib.validD (L.take n) then (acc, n + 1) else ([], 0))
    else if c = 92 then
      (match t with
      | [] => ([], 0)
      | d :: t' => if d = 39 ∨ d = 92 then textR L t' (n + 2) (acc ++ [d]) else if d = 110 then textR L t' (n + 2) (acc ++ [10]) else ([], 0))
    else textR L t (n + 1) (acc ++ [c]) := by rw [textR.eq_def]
theorem valid_any (s : ByteArray) (w : World) (hs : s.size ≤ 4096) (hT : Lib.Utf8Tabs 1 2 w) :
    Calls Tryd.prog 30 #[.string s] w fun e w' => e = .returned (.bool (Lib.validD s.data.toList)) ∧ Below w.heap.size w w' := Any.utf8_ValidString Tryd.lays196 s w (by omega) hT

set_option maxRecDepth 100000 in
set_option maxHeartbeats 8000000 in
theorem rtext_any (s : ByteArray) (a : Nat) (w : World) (hs : s.size ≤ 4096) (ha : a < s.size) (hU : Lib.Utf8Tabs 1 2 w) :
    Calls Tryd.prog 43 #[.string s, .int .i64 (a : Nat)] w fun e w' => e = .returned (.tuple #[.string ⟨(textR (s.data.toList.drop a) (s.data.toList.drop (a + 1)) 1 []).1.toArray⟩, .int .i64 ((textR (s.data.toList.drop a) (s.data.toList.drop (a + 1)) 1 []).2 : Nat)]) ∧ Below w.heap.size w w' := by
  have hls : s.data.toList.length = s.size := rfl
  obtain ⟨T, M, hT⟩ : ∃ T M, textR (s.data.toList.drop a) (s.data.toList.drop (a + 1)) 1 [] = (T, M) := ⟨_, _, rfl⟩
  rw [hT]
  have hget : ∀ k (h : k < s.size) W, (Instr.index 9 (.string s) (.int .i64 (k : Int))).run Tryd.prog W = .ok (.int .u8 (((s[k]'h).toNat : Nat) : Int)) W := by
    intro k h W
    rw [run_index_string W 9 s .i64 k Tryd.underlying9, dif_pos ⟨by omega, by omega⟩]
    rfl
  have hds : ∀ k (h : k < s.size), s.data.toList.drop k = (s[k]'h) :: s.data.toList.drop (k + 1) := fun k h => List.drop_eq_getElem_cons (l := s.data.toList) h
  have hsi : (s.size : Int) ≤ 4096 := by omega
  have hai : (a : Int) ≤ 4096 := by omega
  have HG := Aside0.mk hget
  have HD := Aside0.mk hds
  have HT := Aside0.mk hT
  have HU := Aside0.mk hU
  have HLS := Aside0.mk hls
  clear hT hU hls hget hds
  go_enter Tryd.func43, Tryd.ntmps43
  go_wp2
  go_loopg [6, 7] (s.size + 1) (fun gk v6 v7 wr => ∃ (p n : Nat) (acc : List UInt8), v7 = .int .i64 p ∧ a + n = p ∧ 1 ≤ n ∧ p ≤ s.size ∧ s.size < gk + p ∧ acc.length ≤ n ∧ wr.ownsRow w.heap.size 5 1 v6 acc.length (Lib.byteCells acc) ∧ Below w.heap.size w wr ∧ Aside0 (textR (s.data.toList.drop a) (s.data.toList.drop p) n acc = (T, M)))
  case atStart => exact ⟨a + 1, 1, [], by go_num, rfl, by omega, by omega, by omega, by simp, World.ownsRow_nil _ _ _ _, Below.refl _ _, ⟨HT.out⟩⟩
  case round =>
    obtain ⟨p, n, acc, rfl, hap, hn1, hps, hg, hacc, ho, HB, HV⟩ := hrel
    have hc5 := HB.size
    have HAP := Aside0.mk hap
    clear hap
    have hpi : (p : Int) ≤ (s.size : Int) := by omega
    have hp0 : (0 : Int) ≤ (p : Int) := by omega
    by_cases hp : p < s.size
    · have hgp := HG.out p hp
      have hst := HV.out
      rw [HD.out p hp, textR_cons] at hst
      generalize s[p]'hp = c at hgp hst
      have hn4 : n ≤ 4096 := by have := HAP.out; omega
      have hn4i : (n : Int) ≤ 4096 := by omega
      by_cases h39 : c = 39
      · subst h39
        rw [if_pos rfl] at hst
        replace hgp : ∀ W, (Instr.index 9 (.string s) (.int .i64 (p : Int))).run Tryd.prog W = .ok (.int .u8 39) W := hgp
        have hval : ∀ W, Below w.heap.size w W → Calls Tryd.prog 30 #[.string (s.extract a p)] W fun e w' => e = .returned (.bool (Lib.validD ((s.data.toList.drop a).take n))) ∧ Below W.heap.size W w' := fun W hW => by
          have h := valid_any (s.extract a p) W (by rw [ByteArray.size_extract]; omega) (utabs_keep HU.out hW)
          rw [ext_list, show p - a = n by have := HAP.out; omega] at h
          exact h
        have hap2 : (a : Int) ≤ (p : Int) := by have := HAP.out; omega
        cases hv : Lib.validD ((s.data.toList.drop a).take n)
        · rw [hv] at hval hst
          rw [if_neg (by simp)] at hst
          obtain ⟨rfl, rfl⟩ := Prod.mk.inj hst
          clear hst hv HV
          go_wp2_with (go_at_call 30; refine (hval _ HB).mono ?_)
          first
            | (intro e W1 he hb1; subst he)
            | rintro e W1 ⟨rfl, hb1⟩
          have HB1 := below_then HB hb1
          clear hb1
          go_wp2
          go_ret2
          exact ⟨rfl, HB1⟩
        · rw [hv] at hval hst
          rw [if_pos rfl] at hst
          obtain ⟨rfl, rfl⟩ := Prod.mk.inj hst
          clear hst hv HV
          go_wp2_with (go_at_call 30; refine (hval _ HB).mono ?_)
          first
            | (intro e W1 he hb1; subst he)
            | rintro e W1 ⟨rfl, hb1⟩
          have HB1 := below_then HB hb1
          have hcv := conv_str (xs := Lib.byteCells acc) (by rw [Lib.byteCells_length]; exact own_keptL ho hb1) (allU8_bytes acc)
          rw [strOf_bytes] at hcv
          clear hb1
          go_wp2
          go_ret2
          refine ⟨?_, HB1⟩
          have e : (p : Int) + 1 - (a : Int) = ((n + 1 : Nat) : Int) := by have := HAP.out; omega
          show Ending.returned (.tuple #[.string ⟨acc.toArray⟩, .int .i64 ((p : Int) + 1 - (a : Int))]) = _
          rw [e]
      have n39 : ((c.toNat : Int) == 39) = false := by
        rw [beq_eq_false_iff_ne]; intro e; exact h39 (UInt8.toNat.inj (by show c.toNat = 39; omega))
      rw [if_neg h39] at hst
      by_cases h92 : c = 92
      · subst h92
        rw [if_pos rfl] at hst
        replace hgp : ∀ W, (Instr.index 9 (.string s) (.int .i64 (p : Int))).run Tryd.prog W = .ok (.int .u8 92) W := hgp
        clear n39 h39
        obtain ⟨q, hq⟩ : ∃ q, q = p + 1 := ⟨_, rfl⟩
        have hqi : (p : Int) + 1 = (q : Int) := by omega
        rw [← hq] at hst
        by_cases hqs : q < s.size
        · have hgq := HG.out q hqs
          have hqsi : ¬ (s.size : Int) ≤ (q : Int) := by omega
          have hq0 : (0 : Int) ≤ (q : Int) := by omega
          rw [HD.out q hqs] at hst
          simp only at hst
          generalize s[q]'hqs = d at hgq hst
          obtain ⟨p2, hp2⟩ : ∃ p2, p2 = q + 1 := ⟨_, rfl⟩
          rw [← hp2] at hst
          have HP2 := Aside0.mk hp2
          have HQ := Aside0.mk hq
          have hp2s : p2 ≤ s.size := by omega
          have hpp2 : p < p2 := by omega
          have hqp2 : (q : Int) + 1 = (p2 : Int) := by omega
          clear hp2 hq HV hp
          by_cases hd1 : d = 39
          · subst hd1
            replace hgq : ∀ W, (Instr.index 9 (.string s) (.int .i64 (q : Int))).run Tryd.prog W = .ok (.int .u8 39) W := hgq
            rw [if_pos (.inl rfl)] at hst
            have HS := Aside0.mk hst
            clear hst
            go_wp2_with (at_builtin; refine append_byte rfl (.tmp 52) (.tmp 56) rfl w.heap.size _ _ _ rfl ho _ rfl (by omega) (Nat.le_refl _) HB ?_)
            intro v' w2 ho1 HB1
            have ho2 : w2.ownsRow w.heap.size 5 1 v' (acc ++ [39]).length (Lib.byteCells (acc ++ [39])) := by
              rw [Lib.byteCells_append, List.length_append]
              exact ho1
            clear ho1 ho HB
            go_wp2
            go_roundg (gk - 1)
            case measure => omega
            case rel => exact ⟨p2, n + 2, _, by go_num, by have := HAP.out; have := HP2.out; have := HQ.out; omega, by omega, by omega, by omega, by simp; omega, ho2, HB1, ⟨HS.out⟩⟩
          by_cases hd2 : d = 92
          · subst hd2
            replace hgq : ∀ W, (Instr.index 9 (.string s) (.int .i64 (q : Int))).run Tryd.prog W = .ok (.int .u8 92) W := hgq
            rw [if_pos (.inr rfl)] at hst
            have HS := Aside0.mk hst
            clear hst
            go_wp2_with (at_builtin; refine append_byte rfl (.tmp 52) (.tmp 56) rfl w.heap.size _ _ _ rfl ho _ rfl (by omega) (Nat.le_refl _) HB ?_)
            intro v' w2 ho1 HB1
            have ho2 : w2.ownsRow w.heap.size 5 1 v' (acc ++ [92]).length (Lib.byteCells (acc ++ [92])) := by
              rw [Lib.byteCells_append, List.length_append]
              exact ho1
            clear ho1 ho HB
            go_wp2
            go_roundg (gk - 1)
            case measure => omega
            case rel => exact ⟨p2, n + 2, _, by go_num, by have := HAP.out; have := HP2.out; have := HQ.out; omega, by omega, by omega, by omega, by simp; omega, ho2, HB1, ⟨HS.out⟩⟩
          rw [if_neg (by simp [hd1, hd2])] at hst
          have m39 : ((d.toNat : Int) == 39) = false := by
            rw [beq_eq_false_iff_ne]; intro e; exact hd1 (UInt8.toNat.inj (by show d.toNat = 39; omega))
          have m92 : ((d.toNat : Int) == 92) = false := by
            rw [beq_eq_false_iff_ne]; intro e; exact hd2 (UInt8.toNat.inj (by show d.toNat = 92; omega))
          by_cases hd3 : d = 110
          · subst hd3
            replace hgq : ∀ W, (Instr.index 9 (.string s) (.int .i64 (q : Int))).run Tryd.prog W = .ok (.int .u8 110) W := hgq
            rw [if_pos rfl] at hst
            have HS := Aside0.mk hst
            clear hst m39 m92
            go_wp2_with (at_builtin; refine append_byte rfl (.tmp 60) (.tmp 61) rfl w.heap.size _ _ _ rfl ho _ rfl (by omega) (Nat.le_refl _) HB ?_)
            intro v' w2 ho1 HB1
            have ho2 : w2.ownsRow w.heap.size 5 1 v' (acc ++ [10]).length (Lib.byteCells (acc ++ [10])) := by
              rw [Lib.byteCells_append, List.length_append]
              exact ho1
            clear ho1 ho HB
            go_wp2
            go_roundg (gk - 1)
            case measure => omega
            case rel => exact ⟨p2, n + 2, _, by go_num, by have := HAP.out; have := HP2.out; have := HQ.out; omega, by omega, by omega, by omega, by simp; omega, ho2, HB1, ⟨HS.out⟩⟩
          · rw [if_neg hd3] at hst
            have m110 : ((d.toNat : Int) == 110) = false := by
              rw [beq_eq_false_iff_ne]; intro e; exact hd3 (UInt8.toNat.inj (by show d.toNat = 110; omega))
            obtain ⟨rfl, rfl⟩ := Prod.mk.inj hst
            clear hst
            go_wp2
            go_ret2
            exact ⟨rfl, HB⟩
        · have hqsi : (s.size : Int) ≤ (q : Int) := by omega
          rw [show s.data.toList.drop q = [] from List.drop_eq_nil_of_le (by have := HLS.out; omega)] at hst
          simp only at hst
          obtain ⟨rfl, rfl⟩ := Prod.mk.inj hst
          clear hst HV hq
          go_wp2
          go_ret2
          exact ⟨rfl, HB⟩
      · rw [if_neg h92] at hst
        have n92 : ((c.toNat : Int) == 92) = false := by
          rw [beq_eq_false_iff_ne]; intro e; exact h92 (UInt8.toNat.inj (by show c.toNat = 92; omega))
        have HS := Aside0.mk hst
        clear hst HV
        go_wp2_with (at_builtin; refine append_byte rfl (.tmp 36) (.tmp 38) rfl w.heap.size _ _ _ rfl ho _ rfl (by omega) (Nat.le_refl _) HB ?_)
        intro v' w2 ho1 HB1
        have ho2 : w2.ownsRow w.heap.size 5 1 v' (acc ++ [c]).length (Lib.byteCells (acc ++ [c])) := by
          rw [Lib.byteCells_append, List.length_append]
          exact ho1
        clear ho1 ho HB
        go_wp2
        go_roundg (gk - 1)
        case measure => omega
        case rel => exact ⟨p + 1, n + 1, _, by go_num, by have := HAP.out; omega, by omega, by omega, by omega, by simp; omega, ho2, HB1, ⟨HS.out⟩⟩
    · have hlti : ¬ (p : Int) < (s.size : Int) := by omega
      have hst := HV.out
      rw [show s.data.toList.drop p = [] from List.drop_eq_nil_of_le (by have := HLS.out; omega), textR_nil] at hst
      obtain ⟨rfl, rfl⟩ := Prod.mk.inj hst
      clear hst HV hp
      go_wp2
      go_ret2
      exact ⟨rfl, HB⟩
end Go.Proofs.YtokhbjagcnjiaaaDoor
