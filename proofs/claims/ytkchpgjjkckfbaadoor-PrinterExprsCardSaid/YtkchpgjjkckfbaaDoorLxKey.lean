/- lex.Key: the word of the language that a text is. -/
import Derived.Test.YtkchpgjjkckfbaaDoorLxBy
import Derived.Deep.LoopGhost
set_option linter.unusedVariables false
set_option linter.unusedSimpArgs false
namespace Go.Proofs.YtkchpgjjkckfbaaDoor
open Go.RowKit

/-- The words of the language. -/
def keysL : List (List UInt8) := [[77, 65, 84, 67, 72], [87, 72, 69, 82, 69], [82, 69, 84, 85, 82, 78], [68, 73, 83, 84, 73, 78, 67, 84], [79, 82, 68, 69, 82], [66, 89], [65, 83, 67], [68, 69, 83, 67], [76, 73, 77, 73, 84], [65, 83], [65, 78, 68], [79, 82], [78, 79, 84], [73, 83], [78, 85, 76, 76], [84, 82, 85, 69], [70, 65, 76, 83, 69], [83, 72, 79, 82, 84, 69, 83, 84], [76, 69, 78, 71, 84, 72], [67, 79, 85, 78, 84], [83, 85, 77], [77, 73, 78], [77, 65, 88]]
/-- The table of the words lies as it was laid. -/
def KeysLie (w : World) : Prop := ∀ j, j < 23 → w.cell? ⟨0, j, none⟩ = some (.string ⟨(keysL.getD j []).toArray⟩)
theorem KeysLie.below {w w1 : World} (h : KeysLie w) (hb : Below w.heap.size w w1) : KeysLie w1 := fun j hj =>
  (hb.cell (p := ⟨0, j, none⟩) (World.block_lt_of_cell? w _ (h j hj))).trans (h j hj)
/-- A byte, great. -/
def upB (b : UInt8) : UInt8 := if 97 ≤ b.toNat ∧ b.toNat ≤ 122 then b - 32 else b
/-- The word of the language that a text is; nothing: it is none. -/
def keyL (l : List UInt8) : List UInt8 := if keysL.contains (l.map upB) then l.map upB else []

/-- At which place from k on a text stands among the words; -1: at none. -/
def idxK (g : List UInt8) (k : Nat) : Int :=
  if h : k < 23 then (if g = keysL.getD k [] then (k : Int) else idxK g (k + 1)) else -1
termination_by 23 - k

set_option maxRecDepth 100000 in
set_option maxHeartbeats 1600000 in
theorem index_keys (g : List UInt8) (w : World) (hk : KeysLie w) :
    Calls Tryd.prog 118 #[.slice (some ⟨0, 0, none⟩) 23 23, .string ⟨g.toArray⟩] w fun e w' => e = .returned (.int .i64 (idxK g 0)) ∧ w = w' := by
  obtain ⟨ANS, hANS⟩ : ∃ ANS, ANS = idxK g 0 := ⟨_, rfl⟩
  rw [← hANS]
  have HK := Aside0.mk hk
  clear hk
  go_enter Tryd.func118, Tryd.ntmps118
  go_wp2
  go_loopg [8] 24 (fun gg s8 wr => ∃ k : Nat, k ≤ 23 ∧ 23 < gg + k ∧ s8 = .int .i64 k ∧ wr = w ∧ Aside0 (idxK g k = ANS))
  case atStart => exact ⟨0, by omega, by omega, rfl, rfl, ⟨hANS.symm⟩⟩
  case round =>
    obtain ⟨k, hk, hg, rfl, rfl, HV⟩ := hrel
    clear hANS
    by_cases hlt : k < 23
    · have hlti : (k : Int) < 23 := by omega
      have hk0 : (0 : Int) ≤ (k : Int) := by omega
      have hcell : wr.cell? ((⟨0, 0, none⟩ : Addr).add k) = some (.string ⟨(keysL.getD k []).toArray⟩) := by
        have e : (⟨0, 0, none⟩ : Addr).add k = ⟨0, k, none⟩ := by cases k <;> simp [Addr.add]
        rw [e]
        exact HK.out k hlt
      have hcell2 : wr.cell? ⟨0, k, none⟩ = some (.string ⟨(keysL.getD k []).toArray⟩) := HK.out k hlt
      have hst := HV.out
      rw [idxK, dif_pos hlt] at hst
      by_cases he : g = keysL.getD k []
      · rw [if_pos he] at hst
        have HS := Aside0.mk hst
        have heq : (g == (⟨(keysL.getD k []).toArray⟩ : ByteArray).toList) = true := by rw [Lib.toList_data]; simp [he]
        clear hst HV he
        generalize (⟨(keysL.getD k []).toArray⟩ : ByteArray) = T at hcell hcell2 heq
        go_wp2
        go_ret
        exact ⟨congrArg (fun n : Int => Ending.returned (Value.int .i64 n)) HS.out, rfl⟩
      · rw [if_neg he] at hst
        have HS := Aside0.mk hst
        have heq : (g == (⟨(keysL.getD k []).toArray⟩ : ByteArray).toList) = false := by rw [Lib.toList_data]; simpa using he
        clear hst HV he
        generalize (⟨(keysL.getD k []).toArray⟩ : ByteArray) = T at hcell hcell2 heq
        go_wp2
        go_roundg (gk - 1)
        case measure => omega
        case rel => exact ⟨k + 1, by omega, by omega, by go_num, rfl, HS⟩
    · obtain rfl : k = 23 := by omega
      have hst := HV.out
      rw [idxK, dif_neg (by omega)] at hst
      clear HV hlt hk hg
      go_wp2
      go_ret
      exact ⟨congrArg (fun n : Int => Ending.returned (Value.int .i64 n)) hst, rfl⟩
theorem idxK_range (g : List UInt8) : ∀ n k, n + k = 23 → (idxK g k = -1 ∨ (k : Int) ≤ idxK g k) ∧ (0 ≤ idxK g k ↔ ∃ j, k ≤ j ∧ j < 23 ∧ g = keysL.getD j []) := by
  intro n
  induction n with
  | zero =>
    intro k hk
    obtain rfl : k = 23 := by omega
    rw [idxK, dif_neg (by omega)]
    refine ⟨.inl rfl, by omega, fun ⟨j, h1, h2, _⟩ => by omega⟩
  | succ n ih =>
    intro k hk
    obtain ⟨h1, h2⟩ := ih (k + 1) (by omega)
    rw [idxK, dif_pos (by omega)]
    by_cases he : g = keysL.getD k []
    · rw [if_pos he]
      exact ⟨.inr (Int.le_refl _), fun _ => ⟨k, Nat.le_refl _, by omega, he⟩, fun _ => by omega⟩
    · rw [if_neg he]
      refine ⟨by omega, fun h => ?_, fun ⟨j, a, b, c⟩ => h2.2 ⟨j, ?_, b, c⟩⟩
      · obtain ⟨j, a, b, c⟩ := h2.1 h
        exact ⟨j, by omega, b, c⟩
      · rcases Nat.lt_or_ge k j with hlt | hge
        · omega
        · obtain rfl : j = k := by omega
          exact absurd c he
theorem idxK_mem (g : List UInt8) : (decide (0 ≤ idxK g 0)) = keysL.contains g := by
  rw [Bool.eq_iff_iff, decide_eq_true_iff, (idxK_range g 23 0 rfl).2, List.contains_iff_mem]
  constructor
  · rintro ⟨j, _, hj, rfl⟩
    rw [List.getD_eq_getElem?_getD, List.getElem?_eq_getElem (by exact hj)]
    exact List.getElem_mem _
  · intro h
    obtain ⟨j, hj, rfl⟩ := List.getElem_of_mem h
    exact ⟨j, Nat.zero_le _, hj, by rw [List.getD_eq_getElem?_getD, List.getElem?_eq_getElem hj]; rfl⟩
set_option maxRecDepth 100000 in
theorem contains_keys (g : List UInt8) (w : World) (hk : KeysLie w) :
    Calls Tryd.prog 99 #[.slice (some ⟨0, 0, none⟩) 23 23, .string ⟨g.toArray⟩] w fun e w' => e = .returned (.bool (keysL.contains g)) ∧ w = w' := by
  have hI := index_keys g w hk
  rw [← idxK_mem]
  generalize idxK g 0 = q at hI ⊢
  by_cases hq : 0 ≤ q
  · go_enter Tryd.func99, Tryd.ntmps99
    go_wp2_with (go_at_call 118; refine hI.mono ?_; rintro e w1 ⟨rfl, rfl⟩)
    go_ret
    exact ⟨congrArg (fun b => Ending.returned (Value.bool b)) (by simp [hq]), rfl⟩
  · go_enter Tryd.func99, Tryd.ntmps99
    go_wp2_with (go_at_call 118; refine hI.mono ?_; rintro e w1 ⟨rfl, rfl⟩)
    go_ret
    exact ⟨congrArg (fun b => Ending.returned (Value.bool b)) (by simp [hq]), rfl⟩
theorem up_and : ∀ z : Fin 26, bits .andNot .u8 (((97 + z.val : Nat) : Nat) : Int) 32 = ((97 + z.val : Nat) : Int) - 32 := by decide
theorem up_bits (y : Nat) (h0 : 97 ≤ y) (h1 : y ≤ 122) : bits .andNot .u8 (y : Int) 32 = (y : Int) - 32 := by
  obtain ⟨z, rfl⟩ : ∃ z, y = 97 + z := ⟨y - 97, by omega⟩
  exact up_and ⟨z, by omega⟩
theorem upB_up (b : UInt8) (h : 97 ≤ b.toNat ∧ b.toNat ≤ 122) : ((upB b).toNat : Int) = (b.toNat : Int) - 32 := by
  rw [upB, if_pos h, UInt8.toNat_sub_of_le]
  · show ((b.toNat - 32 : Nat) : Int) = _
    omega
  · rw [UInt8.le_iff_toNat_le]
    show 32 ≤ b.toNat
    omega
set_option maxRecDepth 100000 in
set_option maxHeartbeats 1600000 in
theorem key_any (s : ByteArray) (w : World) (hs : s.size ≤ 9223372036854775807) (hk : KeysLie w) :
    Calls Tryd.prog 68 #[.string s] w fun e w' => e = .returned (.string ⟨(keyL s.data.toList).toArray⟩) ∧ Below w.heap.size w w' := by
  obtain ⟨cc, C0, hcv0, hn0, hC0⟩ := conv_row w s
  obtain ⟨l, hl⟩ : ∃ l, l = s.data.toList := ⟨_, rfl⟩
  obtain ⟨n, hn⟩ : ∃ n, n = s.size := ⟨_, rfl⟩
  have hln : l.length = n := by rw [hl, hn]; rfl
  rw [← hl] at hC0 ⊢
  obtain ⟨R, hR0⟩ : ∃ R, R = keyL l := ⟨_, rfl⟩
  rw [← hR0]
  have HR0 := Aside0.mk hR0
  clear hR0
  rw [← hn] at hcv0 hn0 hC0 hs
  have HK := Aside0.mk hk
  have HC0 := Aside0.mk hC0
  have HLN := Aside0.mk hln
  clear hk hC0 hl hn hln
  go_enter Tryd.func68, Tryd.ntmps68
  go_wp2
  obtain ⟨W1, hW1⟩ : ∃ W1, W1 = (w.alloc (.cells C0 5 (C0.size, C0.size + 1))).drew := ⟨_, rfl⟩
  rw [← hW1]
  have hR1 : RowZ W1 w.heap.size C0 := by rw [hW1]; exact heap_alloc_new w _
  have HB1 : Below w.heap.size w W1 := by rw [hW1]; have h := (Below.refl w.heap.size w).alloc (Nat.le_refl _) (.cells C0 5 (C0.size, C0.size + 1)); exact ⟨h.os, h.tape, h.output, h.size, h.block⟩
  clear hW1 hcv0
  go_loopg [11] (n + 1) (fun gg s11 wr => ∃ (k : Nat) (C : Array Value), k ≤ n ∧ n < gg + k ∧ s11 = .int .i64 k ∧ RowZ wr w.heap.size C ∧ n ≤ C.size ∧ Aside0 (∀ j, j < n → C[j]? = some (.int .u8 (((if j < k then upB (l.getD j 0) else l.getD j 0)).toNat : Int))) ∧ Below w.heap.size w wr)
  case atStart => exact ⟨0, C0, by omega, by omega, rfl, hR1, hn0, ⟨fun j hj => by rw [if_neg (by omega)]; exact HC0.out j hj⟩, HB1⟩
  case round =>
    obtain ⟨k, C, hk, hg, rfl, hR, hnC, HC, HB⟩ := hrel
    clear hR1 HB1 hn0
    by_cases hlt : k < n
    · have hlti : (k : Int) < (n : Int) := by omega
      have hk0 : (0 : Int) ≤ (k : Int) := by omega
      have hck := HC.out k hlt
      rw [if_neg (by omega)] at hck
      have hcell : wr.cell? ⟨w.heap.size, k, none⟩ = some (.int .u8 ((l.getD k 0).toNat : Int)) := (hR.cell k).trans hck
      have hfz := hR.free k (by omega)
      have hby : (l.getD k 0).toNat < 256 := (l.getD k 0).toNat_lt
      by_cases hup : 97 ≤ (l.getD k 0).toNat ∧ (l.getD k 0).toNat ≤ 122
      · have hbit := up_bits _ hup.1 hup.2
        have hu0 : (97 : Int) ≤ ((l.getD k 0).toNat : Int) := by omega
        have hu1 : ((l.getD k 0).toNat : Int) ≤ 122 := by omega
        have hnew : RowZ (wr.setCell ⟨w.heap.size, k, none⟩ (.int .u8 (((l.getD k 0).toNat : Int) - 32))) w.heap.size (C.setIfInBounds k (.int .u8 (((l.getD k 0).toNat : Int) - 32))) := hR.put k _
        have hcs : ∀ j, j < n → (C.setIfInBounds k (.int .u8 (((l.getD k 0).toNat : Int) - 32)))[j]? = some (.int .u8 (((if j < k + 1 then upB (l.getD j 0) else l.getD j 0)).toNat : Int)) := by
          intro j hj
          have h := HC.out j hj
          rw [Array.getElem?_setIfInBounds]
          by_cases hjk : k = j
          · subst hjk
            rw [if_pos rfl, if_pos (by omega), if_pos (by omega), upB_up _ hup]
          · rw [if_neg hjk, h]
            by_cases h1 : j < k
            · rw [if_pos h1, if_pos (by omega)]
            · rw [if_neg h1, if_neg (by omega)]
        have HCS := Aside0.mk hcs
        have HNEW := Aside0.mk hnew
        clear hcs hnew hck hup
        generalize (l.getD k 0).toNat = y at hcell hbit hu0 hu1 hby HCS HNEW
        go_wp2
        go_roundg (gk - 1)
        case measure => omega
        case rel => exact ⟨k + 1, _, by omega, by omega, by go_num, HNEW.out, by simpa using hnC, HCS, below_set HB (by simp) _⟩
      · have hcs : ∀ j, j < n → C[j]? = some (.int .u8 (((if j < k + 1 then upB (l.getD j 0) else l.getD j 0)).toNat : Int)) := by
          intro j hj
          have h := HC.out j hj
          by_cases hjk : k = j
          · subst hjk
            rw [if_pos (by omega), upB, if_neg hup]
            exact hck
          · rw [h]
            by_cases h1 : j < k
            · rw [if_pos h1, if_pos (by omega)]
            · rw [if_neg h1, if_neg (by omega)]
        have HCS := Aside0.mk hcs
        have hup2 : ¬ (97 ≤ ((l.getD k 0).toNat : Int) ∧ ((l.getD k 0).toNat : Int) ≤ 122) := by omega
        clear hcs hck hup
        generalize (l.getD k 0).toNat = y at hcell hup2 hby
        by_cases hlo : (97 : Int) ≤ (y : Int)
        · have hhi : (122 : Int) < (y : Int) := by omega
          clear hup2
          go_wp2
          go_roundg (gk - 1)
          case measure => omega
          case rel => exact ⟨k + 1, _, by omega, by omega, by go_num, hR, hnC, HCS, HB⟩
        · clear hup2
          go_wp2
          go_roundg (gk - 1)
          case measure => omega
          case rel => exact ⟨k + 1, _, by omega, by omega, by go_num, hR, hnC, HCS, HB⟩
    · obtain rfl : k = n := by omega
      have hL : (l.map upB).length = k := by rw [List.length_map, HLN.out]
      have hcv := row_text hR (l.map upB) cc (fun j hj => by
        rw [hL] at hj
        have hjl : j < l.length := by rw [HLN.out]; exact hj
        rw [HC.out j hj, if_pos hj]
        simp [List.getD, hjl])
      rw [hL] at hcv
      have hcon := contains_keys (l.map upB) wr (HK.out.below HB)
      have hRR := HR0.out
      rw [keyL] at hRR
      generalize l.map upB = T at hcv hcon hRR
      cases hb : keysL.contains T
      · rw [hb] at hcon hRR
        have HRR := Aside0.mk hRR
        clear hRR
        go_wp2_with (go_at_call 99; refine hcon.mono ?_; rintro e w1 ⟨rfl, rfl⟩)
        go_ret
        exact ⟨congrArg (fun x : List UInt8 => Ending.returned (Value.string ⟨x.toArray⟩)) HRR.out.symm, HB⟩
      · rw [hb] at hcon hRR
        have HRR := Aside0.mk hRR
        clear hRR
        go_wp2_with (go_at_call 99; refine hcon.mono ?_; rintro e w1 ⟨rfl, rfl⟩)
        go_ret
        exact ⟨congrArg (fun x : List UInt8 => Ending.returned (Value.string ⟨x.toArray⟩)) HRR.out.symm, HB⟩
end Go.Proofs.YtkchpgjjkckfbaaDoor
