/- The walk of the law LexLetters. -/
import Derived.Test.YtokhbjagcnjiaaaDoorLxLetP
import Derived.Test.YtokhbjagcnjiaaaDoorLxRKey
import Derived.Test.YtokhbjagcnjiaaaDoorLLxMov0
set_option linter.unusedVariables false
set_option linter.unusedSimpArgs false
namespace Go.Proofs.YtokhbjagcnjiaaaDoor
open Go.RowKit

theorem u8_range' {z : Int} (h : (Lit.int .u8 z).wf = true) : 0 ≤ z ∧ z ≤ 255 := by
  simp [Lit.wf, IntKind.min, IntKind.max, IntKind.bits, IntKind.signed] at h
  omega
theorem u16_range' {z : Int} (h : (Lit.int .u16 z).wf = true) : 0 ≤ z ∧ z ≤ 65535 := by
  simp [Lit.wf, IntKind.min, IntKind.max, IntKind.bits, IntKind.signed] at h
  omega
theorem cat_list' (a b : ByteArray) : (a ++ b).data.toList = a.data.toList ++ b.data.toList := by simp
theorem cat_size' (a b : ByteArray) : (a ++ b).size = a.size + b.size := by simp
theorem key_self (k : List UInt8) (h : k ∈ keysL) : IsKey k k := by
  have hk := (keys_alpha k h).1
  refine ⟨h, ?_, fun b hb => .inl (hk b hb)⟩
  have e : ∀ b ∈ k, upB b = b := fun b hb => by
    have := hk b hb
    unfold upB
    rw [if_neg (by omega)]
  rw [List.map_congr_left e, List.map_id']
set_option maxRecDepth 100000 in
set_option maxHeartbeats 6400000 in
theorem letters_walk (z0 z1 : Int) (s : ByteArray) (w : World) (h00 : 0 ≤ z0) (h01 : z0 ≤ 255) (h10 : 0 ≤ z1) (h11 : z1 ≤ 65535) (hs : s.size ≤ 140737488355328) (hk : KeysLie w) (hU : Lib.Utf8Tabs 1 2 w) :
    Calls Tryd.prog 4 #[.int .u8 z0, .int .u16 z1, .string s] w fun e w' => e = .returned (.bool true) ∧ Below w.heap.size w w' := by
  have hH := head_any w hk hU
  have hKs := fun W => keys_any W
  obtain ⟨m, hm, hm23⟩ : ∃ m : Nat, (m : Int) = z0 % 23 ∧ m < 23 := ⟨(z0 % 23).toNat, by omega, by omega⟩
  have hmem : keysL.getD m [] ∈ keysL := by
    have : m < keysL.length := hm23
    rw [List.getD_eq_getElem?_getD, List.getElem?_eq_getElem this]
    exact List.getElem_mem this
  obtain ⟨hka, hk2, hk8⟩ := keys_alpha _ hmem
  obtain ⟨key, hkey⟩ : ∃ key, key = keysL.getD m [] := ⟨_, rfl⟩
  rw [← hkey] at hmem hka hk2 hk8
  have HK := Aside0.mk hk
  have HU := Aside0.mk hU
  have HKEY := Aside0.mk hkey
  have HM := Aside0.mk hm
  have HKA := Aside0.mk hka
  have HMEM := Aside0.mk hmem
  clear hk hU hkey hka hm hmem
  go_enter Tryd.func4, Tryd.ntmps4
  go_wp2_with (go_at_call 9; refine hH.mono ?_)
  first
    | (intro e W1 he hb1; subst he)
    | rintro e W1 ⟨rfl, hb1⟩
  clear hH
  go_wp2_with (go_at_call 11; refine (hKs _).mono ?_)
  first
    | (intro e W2 he hkc hb2; subst he)
    | rintro e W2 ⟨rfl, hkc, hb2⟩
  have HB2 := below_then hb1 hb2
  have hck := hkc m hm23
  rw [← HKEY.out] at hck
  have hz : z0 % 23 = (m : Int) := HM.out.symm
  clear hkc hb2 hKs
  obtain ⟨cc, C0, hcv0, hn0, hC0⟩ := conv_row W2 ⟨key.toArray⟩
  obtain ⟨n, hn⟩ : ∃ n, n = key.length := ⟨_, rfl⟩
  have hsz : (⟨key.toArray⟩ : ByteArray).size = n := by rw [hn]; show key.toArray.size = _; simp
  rw [hsz] at hcv0 hn0
  have hC0' : ∀ j, j < n → C0[j]? = some (.int .u8 ((key.getD j 0).toNat : Int)) := fun j hj => hC0 j (by rw [hsz]; exact hj)
  have HC0 := Aside0.mk hC0'
  have HN := Aside0.mk hn
  have hn8 : (n : Int) ≤ 8 := by omega
  clear hC0 hC0' hn hsz hk2 hk8
  go_wp2
  obtain ⟨W3, hW3⟩ : ∃ W3, W3 = (W2.alloc (.cells C0 5 (C0.size, C0.size + 1))).drew := ⟨_, rfl⟩
  rw [← hW3]
  have hR3 : RowZ W3 W2.heap.size C0 := by rw [hW3]; exact heap_alloc_new W2 _
  have HB3 : Below w.heap.size w W3 := by rw [hW3]; have h := below_more HB2 (.cells C0 5 (C0.size, C0.size + 1)); exact ⟨h.os, h.tape, h.output, h.size, h.block⟩
  have hwW := HB2.size
  clear hW3 hcv0
  go_loopg [11] (n + 1) (fun gg s11 wr => ∃ (k : Nat) (cur : List UInt8) (C : Array Value), k ≤ n ∧ n < gg + k ∧ s11 = .int .i64 k ∧ RowZ wr W2.heap.size C ∧ n ≤ C.size ∧ Aside0 (cur.length = n ∧ (∀ j, j < n → C[j]? = some (.int .u8 ((cur.getD j 0).toNat : Int))) ∧ IsKey cur key ∧ ∀ j, k ≤ j → cur.getD j 0 = key.getD j 0) ∧ Below w.heap.size w wr)
  case atStart => exact ⟨0, key, C0, by omega, by omega, rfl, hR3, hn0, ⟨HN.out.symm, HC0.out, key_self key HMEM.out, fun _ _ => rfl⟩, HB3⟩
  case round =>
    obtain ⟨k, cur, C, hk, hg, rfl, hR, hnC, HC, HB⟩ := hrel
    clear hR3 HB3 hn0
    by_cases hlt : k < n
    · have hlti : (k : Int) < (n : Int) := by omega
      have hk0 : (0 : Int) ≤ (k : Int) := by omega
      cases hbit : (bits BinOp.and IntKind.u16 (z1 / 2 ^ k) 1 == 1)
      · go_wp2
        go_roundg (gk - 1)
        case measure => omega
        case rel => exact ⟨k + 1, cur, C, by omega, by omega, by go_num, hR, hnC, ⟨HC.out.1, HC.out.2.1, HC.out.2.2.1, fun j hj => HC.out.2.2.2 j (by omega)⟩, HB⟩
      · have hcell : wr.cell? ⟨W2.heap.size, k, none⟩ = some (.int .u8 ((cur.getD k 0).toNat : Int)) := (hR.cell k).trans (HC.out.2.1 k hlt)
        have hfz := hR.free k (by omega)
        have hyk := HC.out.2.2.2 k (Nat.le_refl _)
        have hkl : k < key.length := by have := HN.out; omega
        have hym : key.getD k 0 ∈ key := by
          rw [List.getD_eq_getElem?_getD, List.getElem?_eq_getElem hkl]
          exact List.getElem_mem hkl
        have hyr := HKA.out _ hym
        obtain ⟨x, hx⟩ : ∃ x : UInt8, x = key.getD k 0 + 32 := ⟨_, rfl⟩
        have hxn : (x.toNat : Int) = ((cur.getD k 0).toNat : Int) + 32 := by
          rw [hyk, hx, UInt8.toNat_add]
          have : (32 : UInt8).toNat = 32 := rfl
          omega
        have hy0 : (65 : Int) ≤ ((cur.getD k 0).toNat : Int) := by rw [hyk]; omega
        have hy1 : ((cur.getD k 0).toNat : Int) ≤ 90 := by rw [hyk]; omega
        have hset : (cur.set k x).length = n ∧ (∀ j, j < n → (C.setIfInBounds k (.int .u8 (((cur.getD k 0).toNat : Int) + 32)))[j]? = some (.int .u8 (((cur.set k x).getD j 0).toNat : Int))) ∧ IsKey (cur.set k x) key ∧ ∀ j, k + 1 ≤ j → (cur.set k x).getD j 0 = key.getD j 0 := by
          have hcl : cur.length = n := HC.out.1
          refine ⟨by rw [List.length_set]; exact hcl, fun j hj => ?_, ?_, fun j hj => ?_⟩
          · rw [Array.getElem?_setIfInBounds]
            by_cases hjk : k = j
            · subst hjk
              rw [if_pos rfl, if_pos (by omega), ← hxn]
              simp [List.getD, hcl, hlt]
            · rw [if_neg hjk, HC.out.2.1 j hj]
              simp [List.getD, List.getElem?_set, hjk]
          · have hi := HC.out.2.2.1
            refine ⟨hi.mem, ?_, fun b hb => ?_⟩
            · have hu : upB x = key.getD k 0 := by
                unfold upB
                have hxn2 : x.toNat = (key.getD k 0).toNat + 32 := by rw [hx, UInt8.toNat_add]; have : (32 : UInt8).toNat = 32 := rfl; omega
                rw [if_pos (by omega), hx]
                simp
              rw [List.map_set, hu, hi.up]
              apply List.ext_getElem?
              intro j
              rw [List.getElem?_set]
              by_cases hjk : k = j
              · subst hjk
                simp [List.getD, hkl]
              · rw [if_neg hjk]
            · rcases List.mem_or_eq_of_mem_set hb with hb | hb
              · exact hi.alpha b hb
              · right
                rw [hb]
                have hxn2 : x.toNat = (key.getD k 0).toNat + 32 := by rw [hx, UInt8.toNat_add]; have : (32 : UInt8).toNat = 32 := rfl; omega
                omega
          · rw [← HC.out.2.2.2 j (by omega)]
            have hjk : ¬ k = j := by omega
            simp [List.getD, List.getElem?_set, hjk]
        have HSET := Aside0.mk hset
        have hnew := Aside0.mk (hR.put k (.int .u8 (((cur.getD k 0).toNat : Int) + 32)))
        clear hset hxn hx hym hyk hyr hkl
        generalize (cur.getD k 0).toNat = y at hcell hy0 hy1 HSET hnew
        go_wp2
        go_roundg (gk - 1)
        case measure => omega
        case rel => exact ⟨k + 1, _, _, by omega, by omega, by go_num, hnew.out, by simpa using hnC, HSET, below_set HB (by omega) _⟩
    · obtain rfl : k = n := by omega
      have hlti : ¬ (k : Int) < (k : Int) := by omega
      have hcl : cur.length = k := HC.out.1
      have hkey := HC.out.2.2.1
      have hrt := fun W (h : RowZ W W2.heap.size C) => row_text h cur cc (fun j hj => HC.out.2.1 j (by omega))
      rw [hcl] at hrt
      have HRT := Aside0.mk hrt
      obtain ⟨T, hT⟩ : ∃ T : ByteArray, T = ⟨cur.toArray⟩ := ⟨_, rfl⟩
      have hTl : T.data.toList = cur := by rw [hT]
      have hTs : T.size = k := by rw [← hcl, ← hTl]; rfl
      rw [← hT] at hrt
      have hXl : (T ++ ⟨#[95]⟩ ++ s).data.toList = cur ++ 95 :: s.data.toList := by rw [cat_list', cat_list', hTl, List.append_assoc, List.cons_append, List.nil_append]
      have hYl : (T ++ ⟨#[95]⟩).data.toList = cur ++ 95 :: [] := by rw [cat_list', hTl]
      have hL1 : ∀ W, Below w.heap.size w W → _ := fun W hW => lex_any T W (by omega) (HK.out.below hW) (utabs_keep HU.out hW)
      rw [hTl, letters_one hkey] at hL1
      have hL2 : ∀ W, Below w.heap.size w W → _ := fun W hW => lex_any (T ++ ⟨#[95]⟩ ++ s) W (by rw [cat_size', cat_size']; show T.size + 1 + s.size ≤ _; omega) (HK.out.below hW) (utabs_keep HU.out hW)
      rw [hXl] at hL2
      have h2 := letters_two hkey s.data.toList
      have hK1 : ∀ W, Below w.heap.size w W → _ := fun W hW => key_any T W (by omega) (HK.out.below hW)
      rw [hTl, key_one hkey] at hK1
      have hK2 : ∀ W, Below w.heap.size w W → _ := fun W hW => key_any (T ++ ⟨#[95]⟩) W (by rw [cat_size']; show T.size + 1 ≤ _; omega) (HK.out.below hW)
      rw [hYl, key_none] at hK2
      generalize lexL (cur ++ 95 :: s.data.toList) = R2 at hL2 h2
      obtain ⟨ts, n2, c2⟩ := R2
      simp only at hL2 h2
      have hT1 : T.size + 1 ≤ 9223372036854775807 := by omega
      have hT2 : T.size + 1 + s.size ≤ 9223372036854775807 := by omega
      have H2 := Aside0.mk h2
      have hrt1 := hrt wr hR
      clear h2 hXl hYl hT HC hkey hcl hTl hTs hlt hg hk hz hck
      go_wp2_with (go_at_call 10; refine (hL1 _ HB).mono ?_)
      first
        | (intro e W4 v1 he ho1 hb4; subst he)
        | rintro e W4 ⟨v1, rfl, ho1, hb4⟩
      have hform : ∃ g cap, v1 = .slice (some ⟨g, 0, none⟩) 1 cap := by
        rcases ho1.2 with ⟨_, h0⟩ | ⟨g, cap, cur, h, _⟩
        · exact absurd h0 (by simp)
        · exact ⟨g, cap, h⟩
      obtain ⟨g1, cap1, rfl⟩ := hform
      have hR4 := hR.kept hb4
      have HB4 := below_then HB hb4
      have hrt4 := hrt W4 hR4
      clear hb4 hrt1 hR HB hL1
      go_wp2_with (go_at_call 10; refine (hL2 _ HB4).mono ?_)
      first
        | (intro e W5 v2 he ho2 hb5; subst he)
        | rintro e W5 ⟨v2, rfl, ho2, hb5⟩
      have hcs := (own_keptL ho1 hb5).cells (g := g1) rfl
      have c0 : W5.cell? ⟨g1, 0, none⟩ = some (.int .i64 2) := hcs 0 _ rfl
      have c1 : W5.cell? ⟨g1, 1, none⟩ = some (.string ⟨key.toArray⟩) := hcs 1 _ rfl
      have c3 : W5.cell? ⟨g1, 3, none⟩ = some (.int .i64 0) := hcs 3 _ rfl
      have hR5 := hR4.kept hb5
      have HB5 := below_then HB4 hb5
      have hrt5 := hrt W5 hR5
      clear hcs hb5 hrt4 hR4 HB4 hL2 ho1
      by_cases hb20 : s.size ≤ 20
      · have hbi : ¬ (20 : Int) < (s.size : Int) := by omega
        have hKT : ((⟨key.toArray⟩ : ByteArray).toList == (⟨key.toArray⟩ : ByteArray).toList) = true := by simp
        generalize (⟨key.toArray⟩ : ByteArray) = KT at c1 hKT hK1 ⊢
        obtain ⟨A2, cap2, rfl, h63, hh2⟩ := toks_held ho2
        by_cases hc2 : c2 = 0
        · subst hc2
          obtain ⟨t, r, rfl, ht1⟩ : ∃ t r, ts = t :: r ∧ t.1 = 1 := by
            rcases H2.out with h | h
            · exact absurd rfl h
            · exact h
          obtain ⟨ad, rfl, hd⟩ := hh2 0 (by simp)
          have hd0 : W5.cell? ad = some (.int .i64 1) := by
            have h := hd.c0
            rw [Nat.zero_mul, show ad.add 0 = ad from by simp [Addr.add]] at h
            rw [h]
            show some (Value.int .i64 t.1) = _
            rw [ht1]
          have hd0' : W5.cell? (ad.add 0) = some (.int .i64 1) := by rw [show ad.add 0 = ad from by simp [Addr.add]]; exact hd0
          obtain ⟨q, hq⟩ : ∃ q, q = (t :: r).length := ⟨_, rfl⟩
          have hq1 : (0 : Int) < (q : Int) := by rw [hq]; simp
          rw [← hq]
          clear hq hh2 hd H2 ho2 ht1 h63 hb20
          go_wp2_with (go_at_call 12; refine (hK1 _ HB5).mono ?_)
          first
            | (intro e W6 he hb6; subst he)
            | rintro e W6 ⟨rfl, hb6⟩
          have hrt6 := hrt W6 (hR5.kept hb6)
          have HB6 := below_then HB5 hb6
          clear hb6
          go_wp2_with (go_at_call 12; refine (hK2 _ HB6).mono ?_)
          first
            | (intro e W7 he hb7; subst he)
            | rintro e W7 ⟨rfl, hb7⟩
          have HB7 := below_then HB6 hb7
          clear hb7
          go_wp2
          go_ret
          exact ⟨rfl, HB7⟩
        · have hcb : (c2 == 0) = false := by rw [beq_eq_false_iff_ne]; exact hc2
          have hcb2 : (c2 != 0) = true := by simp [hc2]
          clear hh2 H2 ho2 h63 hb20 hc2
          go_wp2_with (go_at_call 12; refine (hK1 _ HB5).mono ?_)
          first
            | (intro e W6 he hb6; subst he)
            | rintro e W6 ⟨rfl, hb6⟩
          have hrt6 := hrt W6 (hR5.kept hb6)
          have HB6 := below_then HB5 hb6
          clear hb6
          go_wp2_with (go_at_call 12; refine (hK2 _ HB6).mono ?_)
          first
            | (intro e W7 he hb7; subst he)
            | rintro e W7 ⟨rfl, hb7⟩
          have HB7 := below_then HB6 hb7
          clear hb7
          go_wp2
          go_ret
          exact ⟨rfl, HB7⟩
      · have hbi : (20 : Int) < (s.size : Int) := by omega
        clear hb20 H2 ho2 hK1 hK2
        go_wp2
        go_ret
        exact ⟨rfl, HB5⟩
end Go.Proofs.YtokhbjagcnjiaaaDoor
