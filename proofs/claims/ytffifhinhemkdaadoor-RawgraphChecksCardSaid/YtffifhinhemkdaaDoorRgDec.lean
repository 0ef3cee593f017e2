/- declared of any types. -/
import Derived.Test.YtffifhinhemkdaaDoorRgP
set_option linter.unusedVariables false
set_option linter.unusedSimpArgs false
namespace Go.Proofs.YtffifhinhemkdaaDoor
open Go.RowKit Go.Maps

theorem zero_kind (W : World) : (zeroValue 80).run Tryd.prog W = .ok (.int .i64 0) W := by kernel_rfl
theorem grown_below {W W' : World} {r : Option Nat} (h : Below W.heap.size W W') : W.grownBy W' r := ⟨h.os, h.tape, h.output, h.size, fun k hk _ => h.block k hk⟩
theorem drop_cons {α : Type} (l : List α) (d : α) (i : Nat) (h : i < l.length) : l.drop i = l.getD i d :: l.drop (i + 1) := by
  rw [List.drop_eq_getElem_cons h, List.getD_eq_getElem?_getD, List.getElem?_eq_getElem h]
  rfl
theorem take_getD {α : Type} (l : List α) (d : α) (i : Nat) (h : i < l.length) : l.take (i + 1) = l.take i ++ [l.getD i d] := by
  rw [List.take_add_one, List.getD_eq_getElem?_getD, List.getElem?_eq_getElem h]
  rfl
theorem getD_in {α : Type} (l : List α) (d : α) (i : Nat) (h : i < l.length) : l.getD i d ∈ l := by
  rw [List.getD_eq_getElem?_getD, List.getElem?_eq_getElem h]
  exact List.getElem_mem _
def DBox (W : World) (b : Nat) (a : Array Value) : Prop := W.heap[b]? = some (.cells a 82)
theorem DBox.below {W W' : World} {b : Nat} {a : Array Value} (h : DBox W b a) (hb : Below W.heap.size W W') : DBox W' b a := (hb.block b (Array.getElem?_eq_some_iff.1 h).1).trans h
theorem DBox.cells {W : World} {b : Nat} {a : Array Value} (h : DBox W b a) (i : Nat) : W.cell? ⟨b, i, none⟩ = a[i]? := by
  unfold World.cell?
  rw [h]
  rfl
theorem propsBad_at (ps : List PD) (j : Nat) (h : j < ps.length) : propsBad ((ps.take j).map PD.key) (ps.drop j) = (propBad ((ps.take j).map PD.key) (ps.getD j PD.zero) || propsBad ((ps.take (j + 1)).map PD.key) (ps.drop (j + 1))) := by
  rw [drop_cons ps PD.zero j h, propsBad, take_getD ps PD.zero j h, List.map_append]
  rfl
theorem keys_l {l : List (TD × Nat)} {r : List TD} (h : l.map Prod.fst = r) : l.map (fun x => x.1.key) = r.map TD.key := by
  rw [← h, List.map_map]
  rfl
theorem grown_kept {B bk : Nat} {w W W' : World} (h : Below B w W) (hg : W.grownBy W' (some bk)) (hb : B ≤ bk) (hB : B ≤ W.heap.size) : Below B w W' :=
  ⟨hg.os.trans h.os, hg.tape.trans h.tape, hg.output.trans h.output, Nat.le_trans h.size hg.size, fun k hk => (hg.block k (by omega) (fun e => by have := Option.some.inj e; omega)).trans (h.block k hk)⟩
set_option maxRecDepth 100000 in
set_option maxHeartbeats 6400000 in
theorem declared_any (A : Option Addr) (ts : List TD) (c : Nat) (w : World) (hr : ReadsT w A ts) (hN : ts.length ≤ 4000000000000) :
    Calls Tryd.prog 16 #[.slice A ts.length c] w fun e w' => DeclA ts w e w' := by
  obtain ⟨DR, hDR⟩ : ∃ DR, DR = declR [] 0 ts := ⟨_, rfl⟩
  have HDR := Aside0.mk hDR
  have HR := Aside0.mk hr
  obtain ⟨n, hn⟩ : ∃ n, n = ts.length := ⟨_, rfl⟩
  have HN := Aside0.mk hn
  rw [← hn] at hN ⊢
  have hn9 : (n : Int) ≤ 4000000000000 := by omega
  clear hr hn hDR
  have hmm := @run_makeMap Tryd.prog
  have hq0 := neq_nil
  have hq1 := neq_some
  go_enter Tryd.func16, Tryd.ntmps16
  go_wp2
  refine wp_scope_jumps 0 (fun a' w' => ∃ (ie : Nat) (er : Int), a' = { tmps := #[(a'.tmps.getD 0 undef), (a'.tmps.getD 1 undef), (a'.tmps.getD 2 undef), (a'.tmps.getD 3 undef), (a'.tmps.getD 4 undef), (a'.tmps.getD 5 undef), .int .i64 er, .int .i64 (ie : Int), (a'.tmps.getD 8 undef), (a'.tmps.getD 9 undef), (a'.tmps.getD 10 undef), (a'.tmps.getD 11 undef), (a'.tmps.getD 12 undef), (a'.tmps.getD 13 undef), (a'.tmps.getD 14 undef), (a'.tmps.getD 15 undef), (a'.tmps.getD 16 undef), (a'.tmps.getD 17 undef), (a'.tmps.getD 18 undef), (a'.tmps.getD 19 undef), (a'.tmps.getD 20 undef), (a'.tmps.getD 21 undef), (a'.tmps.getD 22 undef), (a'.tmps.getD 23 undef), (a'.tmps.getD 24 undef), (a'.tmps.getD 25 undef), (a'.tmps.getD 26 undef), (a'.tmps.getD 27 undef), (a'.tmps.getD 28 undef), (a'.tmps.getD 29 undef), (a'.tmps.getD 30 undef), (a'.tmps.getD 31 undef), (a'.tmps.getD 32 undef), (a'.tmps.getD 33 undef), (a'.tmps.getD 34 undef), (a'.tmps.getD 35 undef), (a'.tmps.getD 36 undef), (a'.tmps.getD 37 undef), (a'.tmps.getD 38 undef), (a'.tmps.getD 39 undef), (a'.tmps.getD 40 undef), (a'.tmps.getD 41 undef), (a'.tmps.getD 42 undef), (a'.tmps.getD 43 undef), (a'.tmps.getD 44 undef), (a'.tmps.getD 45 undef), (a'.tmps.getD 46 undef), (a'.tmps.getD 47 undef), (a'.tmps.getD 48 undef), (a'.tmps.getD 49 undef), (a'.tmps.getD 50 undef), (a'.tmps.getD 51 undef), (a'.tmps.getD 52 undef), (a'.tmps.getD 53 undef), (a'.tmps.getD 54 undef), (a'.tmps.getD 55 undef), (a'.tmps.getD 56 undef), (a'.tmps.getD 57 undef), (a'.tmps.getD 58 undef), (a'.tmps.getD 59 undef), (a'.tmps.getD 60 undef), (a'.tmps.getD 61 undef), (a'.tmps.getD 62 undef), (a'.tmps.getD 63 undef), (a'.tmps.getD 64 undef), (a'.tmps.getD 65 undef), (a'.tmps.getD 66 undef), (a'.tmps.getD 67 undef), (a'.tmps.getD 68 undef), (a'.tmps.getD 69 undef), (a'.tmps.getD 70 undef), (a'.tmps.getD 71 undef), (a'.tmps.getD 72 undef), (a'.tmps.getD 73 undef), (a'.tmps.getD 74 undef), (a'.tmps.getD 75 undef), (a'.tmps.getD 76 undef), (a'.tmps.getD 77 undef), (a'.tmps.getD 78 undef), (a'.tmps.getD 79 undef), (a'.tmps.getD 80 undef), (a'.tmps.getD 81 undef), (a'.tmps.getD 82 undef), (a'.tmps.getD 83 undef), (a'.tmps.getD 84 undef)], defers := [] } ∧ DR = some (ie, er) ∧ Below w.heap.size w w') (fun _ _ => 0) rfl ?first ?pass
  case pass =>
    rintro a' w' ⟨ie, er, ha, hDR, HBP⟩
    obtain ⟨U, hU⟩ : ∃ U : Nat → Value, U = fun i => a'.tmps.getD i undef := ⟨_, rfl⟩
    have ha2 : a' = { tmps := #[U 0, U 1, U 2, U 3, U 4, U 5, .int .i64 er, .int .i64 (ie : Int), U 8, U 9, U 10, U 11, U 12, U 13, U 14, U 15, U 16, U 17, U 18, U 19, U 20, U 21, U 22, U 23, U 24, U 25, U 26, U 27, U 28, U 29, U 30, U 31, U 32, U 33, U 34, U 35, U 36, U 37, U 38, U 39, U 40, U 41, U 42, U 43, U 44, U 45, U 46, U 47, U 48, U 49, U 50, U 51, U 52, U 53, U 54, U 55, U 56, U 57, U 58, U 59, U 60, U 61, U 62, U 63, U 64, U 65, U 66, U 67, U 68, U 69, U 70, U 71, U 72, U 73, U 74, U 75, U 76, U 77, U 78, U 79, U 80, U 81, U 82, U 83, U 84], defers := [] } := by rw [hU]; exact ha
    have HDD := Aside0.mk hDR
    clear hU ha hDR
    subst ha2
    go_wp2
    simp only [Exit.jump]
    go_ret3
    unfold DeclA
    rw [← HDR.out, HDD.out]
    exact ⟨rfl, HBP⟩
  case first =>
  obtain ⟨W1, hW1⟩ : ∃ W1, W1 = w.alloc (.map #[] 0) := ⟨_, rfl⟩
  obtain ⟨bm, hbm⟩ : ∃ bm, bm = w.heap.size := ⟨_, rfl⟩
  have HO1 : Aside0 (TypesIs W1 w.heap.size bm []) := ⟨⟨by rw [hW1, hbm]; exact World.ownsMap_made w _ _ _, by omega, fun x hx => by cases hx⟩⟩
  have HB1 : Aside0 (Below w.heap.size w W1) := ⟨by rw [hW1]; exact below_more (Below.refl _ _) _⟩
  go_wp2
  rw [← hW1, ← hbm]
  have HBM := Aside0.mk hbm
  clear hW1 hbm
  go_loopg [6, 7, 18] (n + 1) (fun gg s6 s7 s18 wr => ∃ (i : Nat) (l : List (TD × Nat)), i ≤ n ∧ n < gg + i ∧ s18 = .int .i64 i ∧ s6 = .int .i64 2 ∧ Aside0 (declR ((ts.take i).map TD.key) i (ts.drop i) = DR) ∧ Aside0 (l.map Prod.fst = ts.take i) ∧ Aside0 (TypesIs wr w.heap.size bm l) ∧ Aside0 (Below w.heap.size w wr))
  case atStart => exact ⟨0, [], by omega, by omega, rfl, rfl, ⟨by rw [HDR.out]; rfl⟩, ⟨rfl⟩, HO1, HB1⟩
  case round =>
    obtain ⟨i, l, hi, hg, rfl, rfl, HK, HLM, HTI, HB⟩ := hrel
    have hi0 : (0 : Int) ≤ (i : Int) := by omega
    by_cases hlt : i < n
    · have hlti : (i : Int) < (n : Int) := by omega
      have hil : i < ts.length := by have := HN.out; omega
      obtain ⟨ad, rfl, hh⟩ := (HR.out.below HB.out).row i hil
      have HPR := Aside0.mk (HR.out.props _ (getD_in ts TD.zero i hil))
      have HTX := Aside0.mk (HR.out.txt _ (getD_in ts TD.zero i hil))
      have hk := HK.out
      rw [drop_cons ts TD.zero i hil, declR] at hk
      have htk := take_getD ts TD.zero i hil
      obtain ⟨t, ht⟩ : ∃ t, t = ts.getD i TD.zero := ⟨_, rfl⟩
      rw [← ht] at hh HPR HTX hk htk
      have HKK := Aside0.mk (And.intro hk htk)
      obtain ⟨lb, tA, ps, tc⟩ := t
      obtain ⟨hb, hsp, c0, c1⟩ := hh
      simp only at c0 c1 HPR HTX
      have HG := Aside0.mk (And.intro hi hg)
      obtain ⟨G, hG⟩ : ∃ G, G = gk := ⟨_, rfl⟩
      have HGE := Aside0.mk hG
      rw [← hG] at HG
      clear hG hk htk ht hi hg HK
      obtain ⟨m, hm⟩ : ∃ m, m = ps.length := ⟨_, rfl⟩
      have HM := Aside0.mk hm
      have hm9 : (m : Int) ≤ 9223372036854775807 := by have := HPR.out.len; omega
      rw [← hm] at c1
      clear hm
      go_upto_region 7 with (fail)
      obtain ⟨W2, hW2⟩ : ∃ W2, W2 = wr.alloc (.cells #[.string lb, .slice tA m tc] 41) := ⟨_, rfl⟩
      obtain ⟨bt, hbt⟩ : ∃ bt, bt = wr.heap.size := ⟨_, rfl⟩
      have HT2 : Aside0 (TBox W2 bt #[.string lb, .slice tA m tc]) := ⟨by rw [hW2, hbt]; exact heap_alloc_new wr _⟩
      have HB2 : Aside0 (Below wr.heap.size wr W2) := ⟨by rw [hW2]; exact below_more (Below.refl _ _) _⟩
      rw [← hW2, ← hbt]
      clear hW2 hbt hb hsp c0 c1
      go_upto_region 9 with (fail)
      obtain ⟨W3, hW3⟩ : ∃ W3, W3 = W2.alloc (.map #[] 0) := ⟨_, rfl⟩
      obtain ⟨bk, hbk⟩ : ∃ bk, bk = W2.heap.size := ⟨_, rfl⟩
      have HT3 : Aside0 (TBox W3 bt #[.string lb, .slice tA m tc]) := ⟨by rw [hW3]; exact HT2.out.below (below_more (Below.refl _ _) _)⟩
      have HB3 : Aside0 (Below wr.heap.size wr W3) := ⟨by rw [hW3]; exact below_more HB2.out _⟩
      have HK3 : Aside0 (KindsIs W3 bk []) := ⟨by rw [hW3, hbk]; exact World.ownsMap_made W2 _ _ _⟩
      have HBK : Aside0 (wr.heap.size ≤ bk ∧ bt < bk ∧ bm < bk) := ⟨by
        have h1 := HB2.out.size
        have h2 := HTI.out.map.lt
        have h3 : bt < W2.heap.size := (Array.getElem?_eq_some_iff.1 HT2.out).1
        omega⟩
      rw [← hW3, ← hbk]
      clear hW3 hbk HT2
      by_cases h64 : 64 ≤ i
      · have h64i : (64 : Int) ≤ (i : Int) := by omega
        have HER : Aside0 (some (i, (2 : Int)) = DR) := ⟨by have h := HKK.out.1; rw [typeErr, if_pos h64] at h; exact h⟩
        clear h64
        go_wp2
        refine wp_goto ?_
        exact ⟨rfl, i, 2, rfl, HER.out.symm, below_then HB.out HB3.out⟩
      · have h64i : ¬ (64 : Int) ≤ (i : Int) := by omega
        have h64j : (i : Int) < 64 := by omega
        have HTE : Aside0 (typeErr ((ts.take i).map TD.key) i ⟨lb, tA, ps, tc⟩ = if nameB lb = false then 41 else if TD.key ⟨lb, tA, ps, tc⟩ ∈ (ts.take i).map TD.key then 42 else if 32 < ps.length then 2 else if propsBad [] ps = true then 43 else 0) := ⟨by rw [typeErr, if_neg h64]⟩
        have hna := name_any lb W3
        have htc := HT3.out.cells
        clear h64
        cases hnm : nameB lb with
        | false =>
          rw [hnm] at hna
          have HER : Aside0 (some (i, (41 : Int)) = DR) := ⟨by have h := HKK.out.1; rw [HTE.out, if_pos hnm] at h; exact h⟩
          clear hnm
          go_wp2_with (go_at_call 6; go_loud (refine hna.mono ?_))
          first
            | (intro e W4 he hb4; subst he)
            | rintro e W4 ⟨rfl, hb4⟩
          go_wp2
          refine wp_goto ?_
          exact ⟨rfl, i, 41, rfl, HER.out.symm, below_then HB.out (below_then HB3.out hb4)⟩
        | true =>
          rw [hnm] at hna
          have HTE2 : Aside0 (typeErr ((ts.take i).map TD.key) i ⟨lb, tA, ps, tc⟩ = if TD.key ⟨lb, tA, ps, tc⟩ ∈ (ts.take i).map TD.key then 42 else if 32 < ps.length then 2 else if propsBad [] ps = true then 43 else 0) := ⟨by rw [HTE.out, hnm]; rfl⟩
          clear hnm HTE
          go_upto_region 12 with (go_at_call 6; go_loud (refine hna.mono ?_))
          first
            | (intro e W4 he hb4; subst he)
            | rintro e W4 ⟨rfl, hb4⟩
          have HT4 := Aside0.mk (HT3.out.below hb4)
          have HK4 := Aside0.mk (HK3.out.below hb4)
          have HB4 := Aside0.mk (below_then HB3.out hb4)
          have HTI4 := Aside0.mk (HTI.out.below HB4.out)
          clear htc hna hb4 HT3 HB3 HK3
          have htc := HT4.out.cells
          have hown := HTI4.out.map
          have hmx : lb.size ≤ maxLen := by have := HTX.out; unfold maxLen; omega
          obtain ⟨D, hD⟩ : ∃ D, D = mapD (fun x : TD × Nat => x.1.key) (fun x => .lit (.int .i64 (x.2 : Int))) l := ⟨_, rfl⟩
          obtain ⟨L, hL⟩ : ∃ L, L = l.length := ⟨_, rfl⟩
          have HKL := Aside0.mk (keys_l HLM.out)
          rw [← hD, ← hL] at hown
          have HDL := Aside0.mk (And.intro hD hL)
          have hLn : L ≤ 64 := by
            have h := congrArg List.length HLM.out
            rw [List.length_map, List.length_take] at h
            omega
          have HLN := Aside0.mk hLn
          clear hD hL hLn
          by_cases hin : TD.key ⟨lb, tA, ps, tc⟩ ∈ (ts.take i).map TD.key
          · have HER : Aside0 (some (i, (42 : Int)) = DR) := ⟨by have h := HKK.out.1; rw [HTE2.out, if_pos hin] at h; exact h⟩
            obtain ⟨x, hat⟩ : ∃ x : Nat, D.atKey (.string lb.data.toList) (.lit (.int .i64 (-1))) = .lit (.int .i64 (encB (some x))) := by
              obtain ⟨x, hx, h1, h2⟩ := mapD_yes (fun x : TD × Nat => x.1.key) (fun x => .lit (.int .i64 (x.2 : Int))) l.length l lb.data.toList (.lit (.int .i64 (-1))) rfl (by rw [HKL.out]; exact hin)
              exact ⟨x.2, by rw [HDL.out.1]; exact h2⟩
            have HAT := Aside0.mk hat
            clear hin hat
            go_upto_region 14 with (at_lookup; go_loud (refine wpList_lookup_map _ rfl _ _ rfl bm L _ rfl hown lb hmx rfl (some x) HAT.out ?_))
            go_wp2
            refine wp_goto ?_
            exact ⟨rfl, i, 42, rfl, HER.out.symm, below_then HB.out HB4.out⟩
          · have HTE3 : Aside0 (typeErr ((ts.take i).map TD.key) i ⟨lb, tA, ps, tc⟩ = if 32 < ps.length then 2 else if propsBad [] ps = true then 43 else 0) := ⟨by rw [HTE2.out, if_neg hin]⟩
            have HAT : Aside0 (D.atKey (.string lb.data.toList) (.lit (.int .i64 (-1))) = .lit (.int .i64 (encB none))) := ⟨by
              rw [HDL.out.1]
              exact mapD_no (fun x : TD × Nat => x.1.key) (fun x => .lit (.int .i64 (x.2 : Int))) l.length l lb.data.toList _ rfl (by rw [HKL.out]; exact hin)⟩
            clear hin HTE2
            go_upto_region 14 with (at_lookup; go_loud (refine wpList_lookup_map _ rfl _ _ rfl bm L _ rfl hown lb hmx rfl none HAT.out ?_))
            by_cases h32 : 32 < ps.length
            · have h32i : (32 : Int) < (m : Int) := by have := HM.out; omega
              have HER : Aside0 (some (i, (2 : Int)) = DR) := ⟨by have h := HKK.out.1; rw [HTE3.out, if_pos h32] at h; exact h⟩
              clear h32
              go_wp2
              refine wp_goto ?_
              exact ⟨rfl, i, 2, rfl, HER.out.symm, below_then HB.out HB4.out⟩
            · have h32i : ¬ (32 : Int) < (m : Int) := by have := HM.out; omega
              have HTE4 : Aside0 (typeErr ((ts.take i).map TD.key) i ⟨lb, tA, ps, tc⟩ = if propsBad [] ps = true then 43 else 0) := ⟨by rw [HTE3.out, if_neg h32]⟩
              have h32n : m ≤ 32 := by have := HM.out; omega
              clear h32 HTE3 HAT hown
              go_wp2
              go_loopg [6, 43] (m + 1) (fun gg s6 s43 wx => ∃ (j : Nat), j ≤ m ∧ m < gg + j ∧ s6 = .int .i64 2 ∧ s43 = .int .i64 j ∧ Aside0 (propsBad ((ps.take j).map PD.key) (ps.drop j) = propsBad [] ps) ∧ Aside0 (KindsIs wx bk (ps.take j)) ∧ Aside0 (W4.grownBy wx (some bk)))
              case atStart => exact ⟨0, by omega, by omega, rfl, rfl, ⟨rfl⟩, HK4, ⟨World.grownBy.refl _ _⟩⟩
              case round =>
                obtain ⟨j, hj, hgj, rfl, rfl, HPB, HKX, HGX⟩ := hrel
                have hj0 : (0 : Int) ≤ (j : Int) := by omega
                have HBX : Aside0 (Below w.heap.size w wr) := ⟨grown_kept (below_then HB.out HB4.out) HGX.out (by have h1 := HBK.out.1; have h2 := HB.out.size; omega) (by have h1 := HB4.out.size; have h2 := HB.out.size; omega)⟩
                have hxb := HGX.out.block bt (Array.getElem?_eq_some_iff.1 HT4.out).1 (fun e => by have h1 := HBK.out.2.1; have := Option.some.inj e; omega)
                have HT5 : Aside0 (TBox wr bt #[.string lb, .slice tA m tc]) := ⟨hxb.trans HT4.out⟩
                clear hxb
                by_cases hjt : j < m
                · have hjti : (j : Int) < (m : Int) := by omega
                  have hjl : j < ps.length := by have := HM.out; omega
                  obtain ⟨pd, rfl, hh⟩ := (HPR.out.below HBX.out).row j hjl
                  have hpn := HPR.out.txt _ (getD_in ps PD.zero j hjl)
                  have hpk := HPR.out.num _ (getD_in ps PD.zero j hjl)
                  have hpb := propsBad_at ps j hjl
                  rw [HPB.out] at hpb
                  have htk := take_getD ps PD.zero j hjl
                  obtain ⟨p, hp⟩ : ∃ p, p = ps.getD j PD.zero := ⟨_, rfl⟩
                  rw [← hp] at hh hpn hpk hpb htk
                  have HPT := Aside0.mk (And.intro hpb htk)
                  obtain ⟨pn, pk⟩ := p
                  obtain ⟨hb, hsp, c0, c1⟩ := hh
                  simp only at c0 c1 hpn hpk
                  obtain ⟨hk0, hk1⟩ := hpk
                  have HJ := Aside0.mk (And.intro hj hgj)
                  obtain ⟨GJ, hGJ⟩ : ∃ GJ, GJ = gk := ⟨_, rfl⟩
                  have HGJ := Aside0.mk hGJ
                  rw [← hGJ] at HJ
                  clear hGJ hpb htk hp hj hgj hjl HPB
                  go_upto_region 18 with (fail)
                  obtain ⟨W5, hW5⟩ : ∃ W5, W5 = wr.alloc (.cells #[.string pn, .int .i64 pk] 82) := ⟨_, rfl⟩
                  obtain ⟨bp, hbp⟩ : ∃ bp, bp = wr.heap.size := ⟨_, rfl⟩
                  have HT6 : Aside0 (DBox W5 bp #[.string pn, .int .i64 pk]) := ⟨by rw [hW5, hbp]; exact heap_alloc_new wr _⟩
                  have HB5 : Aside0 (Below wr.heap.size wr W5) := ⟨by rw [hW5]; exact below_more (Below.refl _ _) _⟩
                  have HBP5 : Aside0 (wr.heap.size ≤ bp) := ⟨by omega⟩
                  rw [← hW5, ← hbp]
                  clear hW5 hbp hb hsp c0 c1
                  have HK5 := Aside0.mk (HKX.out.below HB5.out)
                  have htc := HT6.out.cells
                  have hown : W5.ownsMap Tryd.prog 9 (plainElem Tryd.prog 80) bk (ps.take j).length (mapD PD.key (fun p => .lit (.int .i64 p.k)) (ps.take j)) := HK5.out
                  have hhas := mapD_has PD.key (fun p => .lit (.int .i64 p.k)) (ps.take j).length (ps.take j) pn.data.toList rfl
                  obtain ⟨D2, hD2⟩ : ∃ D2, D2 = mapD PD.key (fun p => .lit (.int .i64 p.k)) (ps.take j) := ⟨_, rfl⟩
                  obtain ⟨tw, htw⟩ : ∃ tw, tw = decide (pn.data.toList ∈ (ps.take j).map PD.key) := ⟨_, rfl⟩
                  have hlj : (ps.take j).length = j := by rw [List.length_take]; have := HM.out; omega
                  rw [← hD2, ← htw] at hhas
                  rw [← hD2, hlj] at hown
                  have HD2 := Aside0.mk (And.intro hD2 htw)
                  have hkey : keyOf Tryd.prog 9 (.string pn) = some (.string pn.data.toList) := WideMaps.keyOf_string_mk Tryd.underlying9 (by unfold maxLen; omega)
                  have HHK := Aside0.mk hkey
                  have hna := name_any pn W5
                  clear hD2 htw hlj
                  go_upto_region 19 with (at_lookup; go_loud (refine wpList_lookup_own_ok_int _ rfl _ _ 79 rfl 9 80 .i64 law Tryd.underlying79 Tryd.underlying80 (zero_kind _) bk j D2 rfl hown _ _ rfl hkey ?_; intro cc hcat hwc))
                  clear hcat hwc hown hkey
                  have HEB : Aside0 (propBad ((ps.take j).map PD.key) ⟨pn, pk⟩ = (tw || (!nameB pn || (decide (pk < 1) || decide (3 < pk))))) := ⟨by rw [HD2.out.2]; rfl⟩
                  have HBAD : Aside0 (propBad ((ps.take j).map PD.key) ⟨pn, pk⟩ = true → some (i, (43 : Int)) = DR) := ⟨fun e => by
                    have h := HKK.out.1
                    rw [HTE4.out, HPT.out.1, e] at h
                    exact h⟩
                  have HBE : Aside0 (Below w.heap.size w W5) := ⟨below_then HBX.out HB5.out⟩
                  cases tw with
                  | true =>
                    clear hna
                    go_wp2
                    refine wp_goto ?_
                    exact ⟨rfl, i, 43, rfl, (HBAD.out (by rw [HEB.out]; rfl)).symm, HBE.out⟩
                  | false =>
                    cases hnp : nameB pn with
                    | false =>
                      rw [hnp] at hna
                      have HER : Aside0 (some (i, (43 : Int)) = DR) := ⟨HBAD.out (by rw [HEB.out, hnp]; rfl)⟩
                      clear hnp
                      go_wp2_with (go_at_call 6; go_loud (refine hna.mono ?_))
                      first
                        | (intro e W6 he hb6; subst he)
                        | rintro e W6 ⟨rfl, hb6⟩
                      go_wp2
                      refine wp_goto ?_
                      exact ⟨rfl, i, 43, rfl, HER.out.symm, below_then HBE.out hb6⟩
                    | true =>
                      rw [hnp] at hna
                      have HEB2 : Aside0 (propBad ((ps.take j).map PD.key) ⟨pn, pk⟩ = (decide (pk < 1) || decide (3 < pk))) := ⟨by rw [HEB.out, hnp]; rfl⟩
                      clear hnp HEB
                      by_cases hp1 : pk < 1
                      · have HER : Aside0 (some (i, (43 : Int)) = DR) := ⟨HBAD.out (by rw [HEB2.out, decide_eq_true hp1]; rfl)⟩
                        go_wp2_with (go_at_call 6; go_loud (refine hna.mono ?_))
                        first
                          | (intro e W6 he hb6; subst he)
                          | rintro e W6 ⟨rfl, hb6⟩
                        have HT7 := Aside0.mk (HT6.out.below hb6)
                        have htc := HT7.out.cells
                        go_wp2
                        refine wp_goto ?_
                        exact ⟨rfl, i, 43, rfl, HER.out.symm, below_then HBE.out hb6⟩
                      · by_cases hp3 : 3 < pk
                        · have HER : Aside0 (some (i, (43 : Int)) = DR) := ⟨HBAD.out (by rw [HEB2.out, decide_eq_true hp3, Bool.or_true])⟩
                          go_wp2_with (go_at_call 6; go_loud (refine hna.mono ?_))
                          first
                            | (intro e W6 he hb6; subst he)
                            | rintro e W6 ⟨rfl, hb6⟩
                          have HT7 := Aside0.mk (HT6.out.below hb6)
                          have htc := HT7.out.cells
                          go_wp2
                          refine wp_goto ?_
                          exact ⟨rfl, i, 43, rfl, HER.out.symm, below_then HBE.out hb6⟩
                        · have HGOOD : Aside0 (propsBad ((ps.take (j + 1)).map PD.key) (ps.drop (j + 1)) = propsBad [] ps) := ⟨by rw [HPT.out.1, HEB2.out, decide_eq_false hp1, decide_eq_false hp3]; rfl⟩
                          clear HEB2 HBAD
                          go_upto_region 21 with (go_at_call 6; go_loud (refine hna.mono ?_))
                          first
                            | (intro e W6 he hb6; subst he)
                            | rintro e W6 ⟨rfl, hb6⟩
                          have HT7 := Aside0.mk (HT6.out.below hb6)
                          have htc := HT7.out.cells
                          have hown6 : W6.ownsMap Tryd.prog 9 (plainElem Tryd.prog 80) bk j D2 := by
                            have h := HK5.out.below hb6
                            unfold KindsIs at h
                            rw [← HD2.out.1] at h
                            have hlj : (ps.take j).length = j := by rw [List.length_take]; have := HM.out; omega
                            rw [hlj] at h
                            exact h
                          have hjm : j < maxLen := by unfold maxLen; omega
                          have hwf : (Lit.int .i64 pk).wf = true := by
                            simp [Lit.wf, IntKind.min, IntKind.max, IntKind.signed, IntKind.bits]
                            omega
                          have HB6 := Aside0.mk hb6
                          have hb56 := HK5.out.lt
                          have HGE6 : Aside0 (W4.grownBy W6 (some bk)) := ⟨HGX.out.trans ((grown_below HB5.out).trans (grown_below hb6))⟩
                          clear hna hb6 hb56
                          go_wp2_with (at_mapUpdate; go_loud (refine wpList_mapUpdate_own _ rfl _ _ _ 79 rfl 9 80 law Tryd.underlying79 _ bk j D2 rfl hown6 hjm _ _ _ rfl rfl HHK.out _ [] (plainElem_int Tryd.underlying80 hwf) ?_))
                          intro W7 hown7 hg7
                          have HK7 : Aside0 (KindsIs W7 bk (ps.take (j + 1))) := ⟨by
                            unfold KindsIs
                            rw [HPT.out.2, mapD_snoc, ← HD2.out.1, List.length_append]
                            have hlj : (ps.take j).length = j := by rw [List.length_take]; have := HM.out; omega
                            rw [hlj]
                            exact hown7⟩
                          have HG7 : Aside0 (W4.grownBy W7 (some bk)) := ⟨HGE6.out.trans hg7⟩
                          clear hown7 hg7 hown6 htc
                          go_wp2
                          go_roundg (GJ - 1)
                          case measure => have := HJ.out; have := HGJ.out; omega
                          case rel => exact ⟨j + 1, by omega, by have := HJ.out; omega, by first | rfl | go_num, by first | rfl | go_num, HGOOD, HK7, HG7⟩
                · obtain rfl : j = m := by omega
                  have htj : ps.take j = ps := by rw [HM.out]; exact List.take_length
                  have hdj : ps.drop j = [] := by rw [HM.out]; exact List.drop_length
                  have HKY : Aside0 (KindsIs wr bk ps) := ⟨by have h := HKX.out; rw [htj] at h; exact h⟩
                  have HNB : Aside0 (declR ((ts.take (i + 1)).map TD.key) (i + 1) (ts.drop (i + 1)) = DR) := ⟨by
                    have h := HPB.out
                    rw [hdj, propsBad] at h
                    have h2 := HKK.out.1
                    rw [HTE4.out, ← h] at h2
                    rw [HKK.out.2, List.map_append]
                    exact h2⟩
                  have htc := HT5.out.cells
                  have hown : wr.ownsMap Tryd.prog 9 mapElem bm L D := by
                    have h := HTI4.out.map
                    rw [← HDL.out.1, ← HDL.out.2] at h
                    exact ownsMap_at h (HGX.out.block bm h.lt (fun e => by have h1 := HBK.out.2.2; have := Option.some.inj e; omega))
                  have hkey : keyOf Tryd.prog 9 (.string lb) = some (.string lb.data.toList) := WideMaps.keyOf_string_mk Tryd.underlying9 (by have := HTX.out; unfold maxLen; omega)
                  have hLm : L < maxLen := by have := HLN.out; unfold maxLen; omega
                  clear htj hdj
                  go_wp2_with (at_mapUpdate; go_loud (refine wpList_mapUpdate_own _ rfl _ _ _ 45 rfl 9 79 law Tryd.underlying45 mapElem bm L D rfl hown hLm _ _ _ rfl rfl hkey _ [] rfl ?_))
                  intro W8 hown8 hg8
                  have HTI8 : Aside0 (TypesIs W8 w.heap.size bm (l ++ [(⟨lb, tA, ps, tc⟩, bk)])) := ⟨by
                    refine ⟨?_, HTI.out.base, fun x hx => ?_⟩
                    · rw [mapD_snoc, ← HDL.out.1, List.length_append, ← HDL.out.2]
                      exact hown8
                    · rcases List.mem_append.1 hx with hx | hx
                      · have h0 := HTI.out.kinds x hx
                        have h4 := HTI4.out.kinds x hx
                        have h5 := h0.1.lt
                        have h6 := HBK.out.1
                        have hr := ownsMap_at h4.1 (HGX.out.block x.2 h4.1.lt (fun e => by have := Option.some.inj e; omega))
                        exact ⟨ownsMap_at hr (hg8.block x.2 hr.lt (fun e => by have h7 := h4.2; have := Option.some.inj e; omega)), h4.2⟩
                      · obtain rfl := List.mem_singleton.1 hx
                        exact ⟨ownsMap_at HKY.out (hg8.block bk HKY.out.lt (fun e => by have h7 := HBK.out.2.2; have := Option.some.inj e; omega)), HBK.out.2.2⟩⟩
                  have HB8 : Aside0 (Below w.heap.size w W8) := ⟨grown_kept HBX.out hg8 HTI.out.base HBX.out.size⟩
                  have HLM8 : Aside0 ((l ++ [((⟨lb, tA, ps, tc⟩ : TD), bk)]).map Prod.fst = ts.take (i + 1)) := ⟨by rw [List.map_append, HLM.out, HKK.out.2]; rfl⟩
                  clear hown8 hg8 hown hkey hLm htc
                  go_wp2
                  go_roundg (G - 1)
                  case measure => have := HG.out; have := HGE.out; omega
                  case rel => exact ⟨i + 1, _, by omega, by have := HG.out; omega, by first | rfl | go_num, by first | rfl | go_num, HNB, HLM8, HTI8, HB8⟩
    · obtain rfl : i = n := by omega
      have HOK : Aside0 (none = DR) := ⟨by
        have h := HK.out
        rw [HN.out, List.drop_length] at h
        exact h⟩
      have HLA : Aside0 (l.map Prod.fst = ts) := ⟨by have h := HLM.out; rw [HN.out, List.take_length] at h; exact h⟩
      clear HK HLM hg hi
      go_wp2
      go_ret3
      unfold DeclA
      rw [← HDR.out, ← HOK.out]
      exact ⟨⟨bm, l, rfl, HLA.out, HTI.out⟩, HB.out⟩
end Go.Proofs.YtffifhinhemkdaaDoor
