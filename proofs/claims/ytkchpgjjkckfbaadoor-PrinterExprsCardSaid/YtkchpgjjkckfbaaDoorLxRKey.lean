/- The document's Key. -/
import Derived.Test.YtkchpgjjkckfbaaDoorLxKey
import Derived.Test.YtkchpgjjkckfbaaDoorRegS
import Derived.Deep.Cut
set_option linter.unusedVariables false
set_option linter.unusedSimpArgs false
namespace Go.Proofs.YtkchpgjjkckfbaaDoor
open Go.RowKit

theorem keys_any (w : World) : Calls Tryd.prog 106 #[] w fun e w' => e = .returned (.slice (some ⟨w.heap.size, 0, none⟩) 23 23) ∧ (∀ j, j < 23 → w'.cell? ⟨w.heap.size, j, none⟩ = some (.string ⟨(keysL.getD j []).toArray⟩)) ∧ Below w.heap.size w w' := by
  go_enter Tryd.func106, Tryd.ntmps106
  go_wp2
  go_ret
  refine ⟨rfl, fun j hj => ?_, below_more (Below.refl _ _) _⟩
  have h : ∀ (o : Obj), (w.alloc o).heap[w.heap.size]? = some o := fun o => heap_alloc_new w o
  unfold World.cell?
  rw [h]
  have : j = 0 ∨ j = 1 ∨ j = 2 ∨ j = 3 ∨ j = 4 ∨ j = 5 ∨ j = 6 ∨ j = 7 ∨ j = 8 ∨ j = 9 ∨ j = 10 ∨ j = 11 ∨ j = 12 ∨ j = 13 ∨ j = 14 ∨ j = 15 ∨ j = 16 ∨ j = 17 ∨ j = 18 ∨ j = 19 ∨ j = 20 ∨ j = 21 ∨ j = 22 := by omega
  rcases this with rfl | rfl | rfl | rfl | rfl | rfl | rfl | rfl | rfl | rfl | rfl | rfl | rfl | rfl | rfl | rfl | rfl | rfl | rfl | rfl | rfl | rfl | rfl <;> rfl

set_option maxRecDepth 100000 in
set_option maxHeartbeats 1600000 in
theorem rkey_any (s : ByteArray) (w : World) (hs : s.size ≤ 9223372036854775807) :
    Calls Tryd.prog 72 #[.string s] w fun e w' => e = .returned (.string ⟨(keyL s.data.toList).toArray⟩) ∧ Below w.heap.size w w' := by
  obtain ⟨cc, C0, hcv0, hn0, hC0⟩ := conv_row w s
  obtain ⟨l, hl⟩ : ∃ l, l = s.data.toList := ⟨_, rfl⟩
  obtain ⟨n, hn⟩ : ∃ n, n = s.size := ⟨_, rfl⟩
  have hln : l.length = n := by rw [hl, hn]; rfl
  rw [← hl] at hC0 ⊢
  obtain ⟨R, hR0⟩ : ∃ R, R = keyL l := ⟨_, rfl⟩
  rw [← hR0]
  have HR0 := Aside0.mk hR0
  clear hR0
  rw [← hn] at hcv0 hn0 hC0 hs
  have HC0 := Aside0.mk hC0
  have HLN := Aside0.mk hln
  clear hC0 hl hn hln
  go_enter Tryd.func72, Tryd.ntmps72
  go_wp2
  obtain ⟨W1, hW1⟩ : ∃ W1, W1 = (w.alloc (.cells C0 5 (C0.size, C0.size + 1))).drew := ⟨_, rfl⟩
  rw [← hW1]
  have hR1 : RowZ W1 w.heap.size C0 := by rw [hW1]; exact heap_alloc_new w _
  have HB1 : Below w.heap.size w W1 := by rw [hW1]; have h := (Below.refl w.heap.size w).alloc (Nat.le_refl _) (.cells C0 5 (C0.size, C0.size + 1)); exact ⟨h.os, h.tape, h.output, h.size, h.block⟩
  clear hW1 hcv0
  go_loopg [4] (n + 1) (fun gg s11 wr => ∃ (k : Nat) (C : Array Value), k ≤ n ∧ n < gg + k ∧ s11 = .int .i64 k ∧ RowZ wr w.heap.size C ∧ n ≤ C.size ∧ Aside0 (∀ j, j < n → C[j]? = some (.int .u8 (((if j < k then upB (l.getD j 0) else l.getD j 0)).toNat : Int))) ∧ Below w.heap.size w wr)
  case atStart => exact ⟨0, C0, by omega, by omega, rfl, hR1, hn0, ⟨fun j hj => by rw [if_neg (by omega)]; exact HC0.out j hj⟩, HB1⟩
  case round =>
    obtain ⟨k, C, hk, hg, rfl, hR, hnC, HC, HB⟩ := hrel
    clear hR1 HB1 hn0
    by_cases hlt : k < n
    · have hlti : (k : Int) < (n : Int) := by omega
      have hk0 : (0 : Int) ≤ (k : Int) := by omega
      have hck := HC.out k hlt
      rw [if_neg (by omega)] at hck
      have hcell : wr.cell? ⟨w.heap.size, k, none⟩ = some (.int .u8 ((l.getD k 0).toNat : Int)) := (hR.cell k).trans hck
      have hfz := hR.free k (by omega)
      have hby : (l.getD k 0).toNat < 256 := (l.getD k 0).toNat_lt
      by_cases hup : 97 ≤ (l.getD k 0).toNat ∧ (l.getD k 0).toNat ≤ 122
      · have hbit := up_bits _ hup.1 hup.2
        have hu0 : (97 : Int) ≤ ((l.getD k 0).toNat : Int) := by omega
        have hu1 : ((l.getD k 0).toNat : Int) ≤ 122 := by omega
        have hnew : RowZ (wr.setCell ⟨w.heap.size, k, none⟩ (.int .u8 (((l.getD k 0).toNat : Int) - 32))) w.heap.size (C.setIfInBounds k (.int .u8 (((l.getD k 0).toNat : Int) - 32))) := hR.put k _
        have hcs : ∀ j, j < n → (C.setIfInBounds k (.int .u8 (((l.getD k 0).toNat : Int) - 32)))[j]? = some (.int .u8 (((if j < k + 1 then upB (l.getD j 0) else l.getD j 0)).toNat : Int)) := by
          intro j hj
          have h := HC.out j hj
          rw [Array.getElem?_setIfInBounds]
          by_cases hjk : k = j
          · subst hjk
            rw [if_pos rfl, if_pos (by omega), if_pos (by omega), upB_up _ hup]
          · rw [if_neg hjk, h]
            by_cases h1 : j < k
            · rw [if_pos h1, if_pos (by omega)]
            · rw [if_neg h1, if_neg (by omega)]
        have HCS := Aside0.mk hcs
        have HNEW := Aside0.mk hnew
        clear hcs hnew hck hup
        generalize (l.getD k 0).toNat = y at hcell hbit hu0 hu1 hby HCS HNEW
        go_wp2
        go_roundg (gk - 1)
        case measure => omega
        case rel => exact ⟨k + 1, _, by omega, by omega, by go_num, HNEW.out, by simpa using hnC, HCS, below_set HB (by simp) _⟩
      · have hcs : ∀ j, j < n → C[j]? = some (.int .u8 (((if j < k + 1 then upB (l.getD j 0) else l.getD j 0)).toNat : Int)) := by
          intro j hj
          have h := HC.out j hj
          by_cases hjk : k = j
          · subst hjk
            rw [if_pos (by omega), upB, if_neg hup]
            exact hck
          · rw [h]
            by_cases h1 : j < k
            · rw [if_pos h1, if_pos (by omega)]
            · rw [if_neg h1, if_neg (by omega)]
        have HCS := Aside0.mk hcs
        have hup2 : ¬ (97 ≤ ((l.getD k 0).toNat : Int) ∧ ((l.getD k 0).toNat : Int) ≤ 122) := by omega
        clear hcs hck hup
        generalize (l.getD k 0).toNat = y at hcell hup2 hby
        by_cases hlo : (97 : Int) ≤ (y : Int)
        · have hhi : (122 : Int) < (y : Int) := by omega
          clear hup2
          go_wp2
          go_roundg (gk - 1)
          case measure => omega
          case rel => exact ⟨k + 1, _, by omega, by omega, by go_num, hR, hnC, HCS, HB⟩
        · clear hup2
          go_wp2
          go_roundg (gk - 1)
          case measure => omega
          case rel => exact ⟨k + 1, _, by omega, by omega, by go_num, hR, hnC, HCS, HB⟩
    · obtain rfl : k = n := by omega
      have hL : (l.map upB).length = k := by rw [List.length_map, HLN.out]
      have hct : ∀ j, j < (l.map upB).length → C[j]? = some (.int .u8 (((l.map upB).getD j 0).toNat : Int)) := fun j hj => by
        rw [hL] at hj
        have hjl : j < l.length := by rw [HLN.out]; exact hj
        rw [HC.out j hj, if_pos hj]
        simp [List.getD, hjl]
      have hRR := HR0.out
      rw [keyL, ← idxK_mem] at hRR
      obtain ⟨g, hg⟩ : ∃ g, g = l.map upB := ⟨_, rfl⟩
      rw [← hg] at hL hct hRR
      have HCT := Aside0.mk hct
      have HRR := Aside0.mk hRR
      have HL2 := Aside0.mk hL
      clear hct hRR hL hg hlt hk
      obtain ⟨W2, hW2⟩ : ∃ W2, W2 = wr := ⟨_, rfl⟩
      have hKs := keys_any wr
      rw [← hW2] at hKs hR HB ⊢
      clear hW2
      go_wp2_with (go_at_call 106; refine hKs.mono ?_; rintro e W3 ⟨rfl, hkc, hb3⟩)
      have hR3 := hR.kept hb3
      have HB3 := below_then HB hb3
      have HKC := Aside0.mk hkc
      clear hkc hb3 hR HB hKs
      go_loopg [6] 24 (fun gg s6 ws => ∃ q : Nat, q ≤ 23 ∧ 23 < gg + q ∧ s6 = .int .i64 q ∧ Below W3.heap.size W3 ws ∧ Aside0 (R = if decide (0 ≤ idxK g q) = true then g else []))
      case atStart => exact ⟨0, by omega, by omega, rfl, Below.refl _ _, HRR⟩
      case round =>
        obtain ⟨q, hq, hgg, rfl, hbs, HV⟩ := hrel
        have hRs := hR3.kept hbs
        have HBs := below_then HB3 hbs
        by_cases hlt : q < 23
        · have hlti : (q : Int) < 23 := by omega
          have hq0 : (0 : Int) ≤ (q : Int) := by omega
          have hcell2 : wr.cell? ⟨W2.heap.size, q, none⟩ = some (.string ⟨(keysL.getD q []).toArray⟩) := (hbs.cell (p := ⟨W2.heap.size, q, none⟩) (World.block_lt_of_cell? W3 _ (HKC.out q hlt))).trans (HKC.out q hlt)
          have hcvd := row_text (show RowZ wr.drew w.heap.size C from hRs) g cc HCT.out
          rw [HL2.out] at hcvd
          have hst := HV.out
          rw [idxK, dif_pos hlt] at hst
          by_cases he : g = keysL.getD q []
          · have heq : ((⟨(keysL.getD q []).toArray⟩ : ByteArray).toList == (⟨g.toArray⟩ : ByteArray).toList) = true := by rw [Lib.toList_data, Lib.toList_data]; simp [he]
            rw [if_pos he, if_pos (by simp)] at hst
            have HS := Aside0.mk (show (⟨(keysL.getD q []).toArray⟩ : ByteArray) = ⟨R.toArray⟩ by rw [hst, he])
            clear hst HV he
            generalize (⟨(keysL.getD q []).toArray⟩ : ByteArray) = T at hcell2 heq HS
            generalize (⟨g.toArray⟩ : ByteArray) = G at hcvd heq
            go_upto_region 11 with (fail)
            refine wp_region_held_drew (S := (fun w' => w'.cell? ⟨W2.heap.size, q, none⟩ = some (.string T) ∧ (convert 48 9 (.slice (some ⟨w.heap.size, 0, none⟩) k cc)).run Tryd.prog w' = .ok (.string G) w')) (by kernel_rfl) ?_ (fun hHeld => ?_)
            · exact ⟨hcell2, hcvd⟩
            refine take_in (i := 0) (v := ?v0a) rfl (by kernel_rfl) (by kernel_rfl) (by kernel_rfl) (fun _ _ _ h => h) (by rfl) ?hy0a (by assumption) ?_
            case hy0a => intro WW hSw; (try dsimp only at hSw); go_simp; try with_reducible rfl
            try simp only [Act.put, List.setIfInBounds_toArray, List.set_cons_zero, List.set_cons_succ]
            refine take_in (i := 1) (v := ?v1a) rfl (by kernel_rfl) (by kernel_rfl) (by kernel_rfl) (fun _ _ _ h => h) (by rfl) ?hy1a (by assumption) ?_
            case hy1a => intro WW hSw; (try dsimp only at hSw); go_simp; try with_reducible rfl
            try simp only [Act.put, List.setIfInBounds_toArray, List.set_cons_zero, List.set_cons_succ]
            refine take_in (i := 2) (v := ?v2a) rfl (by kernel_rfl) (by kernel_rfl) (by kernel_rfl) (fun _ _ _ h => h) (by rfl) ?hy2a (by assumption) ?_
            case hy2a => intro WW hSw; (try dsimp only at hSw); go_simp; try with_reducible rfl
            try simp only [Act.put, List.setIfInBounds_toArray, List.set_cons_zero, List.set_cons_succ]
            refine take_in (i := 3) (v := ?v3a) rfl (by kernel_rfl) (by kernel_rfl) (by kernel_rfl) (fun _ _ _ h => h) (by rfl) ?hy3a (by assumption) ?_
            case hy3a => intro WW hSw; (try dsimp only at hSw); go_simp; try with_reducible rfl
            try simp only [Act.put, List.setIfInBounds_toArray, List.set_cons_zero, List.set_cons_succ]
            refine take_in (i := 4) (v := ?v4a) rfl (by kernel_rfl) (by kernel_rfl) (by kernel_rfl) (fun _ _ _ h => h) (by rfl) ?hy4a (by assumption) ?_
            case hy4a => intro WW hSw; (try dsimp only at hSw); go_simp; try with_reducible rfl
            try simp only [Act.put, List.setIfInBounds_toArray, List.set_cons_zero, List.set_cons_succ]
            refine take_in (i := 5) (v := ?v5a) rfl (by kernel_rfl) (by kernel_rfl) (by kernel_rfl) (fun _ _ _ h => h) (by rfl) ?hy5a (by assumption) ?_
            case hy5a => intro WW hSw; (try dsimp only at hSw); go_simp; try with_reducible rfl
            try simp only [Act.put, List.setIfInBounds_toArray, List.set_cons_zero, List.set_cons_succ]
            refine take_in (i := 6) (v := ?v6a) rfl (by kernel_rfl) (by kernel_rfl) (by kernel_rfl) (fun _ _ _ h => h) (by rfl) ?hy6a (by assumption) ?_
            case hy6a => intro WW hSw; (try dsimp only at hSw); go_simp; try with_reducible rfl
            try simp only [Act.put, List.setIfInBounds_toArray, List.set_cons_zero, List.set_cons_succ]
            refine wpAnyH_done (by kernel_rfl) ?_ _
            go_wp2
            go_ret
            exact ⟨congrArg (fun x => Ending.returned (Value.string x)) HS.out, ⟨HBs.os, HBs.tape, HBs.output, HBs.size, HBs.block⟩⟩
          · have heq : ((⟨(keysL.getD q []).toArray⟩ : ByteArray).toList == (⟨g.toArray⟩ : ByteArray).toList) = false := by rw [Lib.toList_data, Lib.toList_data]; simpa using fun h => he h.symm
            rw [if_neg he] at hst
            have HS := Aside0.mk hst
            clear hst HV he
            generalize (⟨(keysL.getD q []).toArray⟩ : ByteArray) = T at hcell2 heq
            generalize (⟨g.toArray⟩ : ByteArray) = G at hcvd heq
            go_upto_region 11 with (fail)
            refine wp_region_held_drew (S := (fun w' => w'.cell? ⟨W2.heap.size, q, none⟩ = some (.string T) ∧ (convert 48 9 (.slice (some ⟨w.heap.size, 0, none⟩) k cc)).run Tryd.prog w' = .ok (.string G) w')) (by kernel_rfl) ?_ (fun hHeld => ?_)
            · exact ⟨hcell2, hcvd⟩
            refine take_in (i := 0) (v := ?v0b) rfl (by kernel_rfl) (by kernel_rfl) (by kernel_rfl) (fun _ _ _ h => h) (by rfl) ?hy0b (by assumption) ?_
            case hy0b => intro WW hSw; (try dsimp only at hSw); go_simp; try with_reducible rfl
            try simp only [Act.put, List.setIfInBounds_toArray, List.set_cons_zero, List.set_cons_succ]
            refine take_in (i := 1) (v := ?v1b) rfl (by kernel_rfl) (by kernel_rfl) (by kernel_rfl) (fun _ _ _ h => h) (by rfl) ?hy1b (by assumption) ?_
            case hy1b => intro WW hSw; (try dsimp only at hSw); go_simp; try with_reducible rfl
            try simp only [Act.put, List.setIfInBounds_toArray, List.set_cons_zero, List.set_cons_succ]
            refine take_in (i := 2) (v := ?v2b) rfl (by kernel_rfl) (by kernel_rfl) (by kernel_rfl) (fun _ _ _ h => h) (by rfl) ?hy2b (by assumption) ?_
            case hy2b => intro WW hSw; (try dsimp only at hSw); go_simp; try with_reducible rfl
            try simp only [Act.put, List.setIfInBounds_toArray, List.set_cons_zero, List.set_cons_succ]
            refine take_in (i := 3) (v := ?v3b) rfl (by kernel_rfl) (by kernel_rfl) (by kernel_rfl) (fun _ _ _ h => h) (by rfl) ?hy3b (by assumption) ?_
            case hy3b => intro WW hSw; (try dsimp only at hSw); go_simp; try with_reducible rfl
            try simp only [Act.put, List.setIfInBounds_toArray, List.set_cons_zero, List.set_cons_succ]
            refine take_in (i := 4) (v := ?v4b) rfl (by kernel_rfl) (by kernel_rfl) (by kernel_rfl) (fun _ _ _ h => h) (by rfl) ?hy4b (by assumption) ?_
            case hy4b => intro WW hSw; (try dsimp only at hSw); go_simp; try with_reducible rfl
            try simp only [Act.put, List.setIfInBounds_toArray, List.set_cons_zero, List.set_cons_succ]
            refine take_in (i := 5) (v := ?v5b) rfl (by kernel_rfl) (by kernel_rfl) (by kernel_rfl) (fun _ _ _ h => h) (by rfl) ?hy5b (by assumption) ?_
            case hy5b => intro WW hSw; (try dsimp only at hSw); go_simp; try with_reducible rfl
            try simp only [Act.put, List.setIfInBounds_toArray, List.set_cons_zero, List.set_cons_succ]
            refine take_in (i := 6) (v := ?v6b) rfl (by kernel_rfl) (by kernel_rfl) (by kernel_rfl) (fun _ _ _ h => h) (by rfl) ?hy6b (by assumption) ?_
            case hy6b => intro WW hSw; (try dsimp only at hSw); go_simp; try with_reducible rfl
            try simp only [Act.put, List.setIfInBounds_toArray, List.set_cons_zero, List.set_cons_succ]
            refine wpAnyH_done (by kernel_rfl) ?_ _
            go_wp2
            go_roundg (gk - 1)
            case measure => omega
            case rel => exact ⟨q + 1, by omega, by omega, by go_num, ⟨hbs.os, hbs.tape, hbs.output, hbs.size, hbs.block⟩, HS⟩
        · obtain rfl : q = 23 := by omega
          have hst := HV.out
          rw [idxK, dif_neg (by omega), if_neg (by decide)] at hst
          have HS := Aside0.mk hst
          clear HV hlt hst
          go_wp2
          go_ret
          exact ⟨congrArg (fun x : List UInt8 => Ending.returned (Value.string ⟨x.toArray⟩)) HS.out.symm, HBs⟩
end Go.Proofs.YtkchpgjjkckfbaaDoor
