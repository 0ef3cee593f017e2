/- The reference's word at a place is wordL. -/
import Derived.Test.YtokhbjagcnjiaaaDoorLxR8
import Derived.Test.YtokhbjagcnjiaaaDoorLxRKey
import Derived.Test.YtokhbjagcnjiaaaDoorLLxMov0
set_option linter.unusedVariables false
set_option linter.unusedSimpArgs false
namespace Go.Proofs.YtokhbjagcnjiaaaDoor
open Go.RowKit

/-- The word's head of a text, as the reference asks for it. -/
theorem nm_pos (l : List UInt8) (hne : l ≠ []) : (letterB (Lib.decodeL l).1 = true ∧ nmL l = runL nameB l.length l ∧ 1 ≤ nmL l) ∨ (letterB (Lib.decodeL l).1 = false ∧ nmL l = 0) := by
  unfold nmL
  rw [if_neg hne]
  cases h : letterB (Lib.decodeL l).1
  · exact .inr ⟨rfl, rfl⟩
  · exact .inl ⟨rfl, rfl, runL_pos nameB l hne (by unfold nameB; rw [h]; rfl)⟩
theorem quote_same (b : UInt8) (t : List UInt8) : (Lib.decodeL (b :: t)).1 = 39 ↔ b = 39 := by
  by_cases h : b.toNat < 128
  · rw [Lib.decodeL_ascii b t h]
    exact ⟨fun e => UInt8.toNat.inj e, fun e => by rw [e]; rfl⟩
  · have := decodeL_high b t h
    exact ⟨fun e => by omega, fun e => by rw [e] at h; exact absurd (by decide) h⟩

theorem results_tok {fn : Func} {tmps : Array Value} {W : World} {b : Nat} {cs : Array Value} (h : fn.results = #[.cell 4 29, .tmp 5, .tmp 6]) (h4 : tmps.getD 4 undef = .pointer (some ⟨b, 0, none⟩)) (hb : BoxT W b cs) (hc : cs.size = 4) :
    (results fn tmps).run Tryd.prog W = .ok (.tuple #[.agg cs, tmps.getD 5 undef, tmps.getD 6 undef]) W := by
  have hi : (Tryd.prog.info? 29).map (·.size) = some cs.size := by
    obtain ⟨i0, hi0, hi1, hi2, hi3⟩ := info_parts info_tok
    rw [hi0, hc]
    show some i0.size = some 4
    rw [hi2]
  have hl := run_loadVar_row (P := Tryd.prog) W b 29 29 cs (0, 0) _ hb Tryd.underlying29 rfl hi
  have h5 := h4
  rw [Array.getD_eq_getD_getElem?] at h5
  simp [results, h, h5, asAddr, hl, Result.andThen]
theorem below_one {w W : World} {o : Obj} (h : Below (w.heap.size + 1) (w.alloc o) W) : Below w.heap.size w W := (below_more (Below.refl _ _) o).trans (h.mono (Nat.le_succ _))
theorem boxT_one {w W : World} {cs : Array Value} (h : Below (w.heap.size + 1) (w.alloc (.cells cs 29)) W) : BoxT W w.heap.size cs := (h.block w.heap.size (Nat.lt_succ_self _)).trans (heap_alloc_new w _)
theorem boxT_two {w W : World} {cs : Array Value} (h : Below (w.alloc (.cells cs 29)).heap.size (w.alloc (.cells cs 29)) W) : BoxT W w.heap.size cs := (h.block w.heap.size (by simp)).trans (heap_alloc_new w _)
set_option maxRecDepth 100000 in
set_option maxHeartbeats 8000000 in
theorem rword_any (s : ByteArray) (a : Nat) (w : World) (hs : s.size ≤ 4096) (ha : a < s.size) (hU : Lib.Utf8Tabs 1 2 w) (c : Int) (n : Nat) (k v p : Int) (x : List UInt8) (hw : wordL (s.data.toList.drop a) (a : Int) = (c, (k, x, v, p), n)) :
    Calls Tryd.prog 29 #[.string s, .int .i64 (a : Nat)] w fun e w' => e = .returned (.tuple #[.agg #[.int .i64 k, .string ⟨x.toArray⟩, .int .i64 v, .int .i64 p], .int .i64 n, .int .i64 c]) ∧ Below w.heap.size w w' := by
  have hls : s.data.toList.length = s.size := rfl
  have hne : s.data.toList.drop a ≠ [] := drop_ne ha
  have hcons : s.data.toList.drop a = (s[a]'ha) :: s.data.toList.drop (a + 1) := List.drop_eq_getElem_cons (l := s.data.toList) ha
  have hget : ∀ W, (Instr.index 9 (.string s) (.int .i64 (a : Int))).run Tryd.prog W = .ok (.int .u8 (((s[a]'ha).toNat : Nat) : Int)) W := by
    intro W
    rw [run_index_string W 9 s .i64 a Tryd.underlying9, dif_pos ⟨by omega, by omega⟩]
    rfl
  have hnm := fun W hW => rname_any s a W hs (by omega) (utabs_keep (w' := W) hU hW)
  have hdg := fun W => rdigit_any (((s[a]'ha).toNat : Nat) : Int) W
  rw [dig_same s a ha] at hdg
  have hnu := fun W => rnumber_any s a W hs (by omega)
  have htx := fun W hW => rtext_any s a W hs ha (utabs_keep (w' := W) hU hW)
  have hsg := fun W => rsign_any s a W hs ha
  have hky := fun (n : Nat) W (hn : n ≤ (s.data.toList.drop a).length) => rkey_any (s.extract a (a + n)) W (by rw [ByteArray.size_extract]; omega)
  have hex : ∀ n, (s.extract a (a + n)).data.toList = (s.data.toList.drop a).take n := fun n => by rw [ext_list]; congr 1; omega
  have hll : (s.data.toList.drop a).length = s.size - a := by rw [List.length_drop, hls]
  have hnl := nm_pos _ hne
  have hqs := quote_same (s[a]'ha) (s.data.toList.drop (a + 1))
  rw [← hcons] at hqs
  have hq39 : ∀ b, b = s[a]'ha → b = 39 → textR (s.data.toList.drop a) (s.data.toList.drop (a + 1)) 1 [] = quotL (s.data.toList.drop a) := fun b hb h39 => by
    rw [hcons, ← hb, h39]
    exact text_quot _
  have hnr := numR_eq (s.data.toList.drop a) 0 0 false
  generalize s[a]'ha = b at hget hdg hqs hq39 hcons
  have hai : (a : Int) < (s.size : Int) := by omega
  have ha0 : (0 : Int) ≤ (a : Int) := by omega
  have hsi : (s.size : Int) ≤ 4096 := by omega
  have HU := Aside0.mk hU
  have HLS := Aside0.mk hls
  have HCO := Aside0.mk hcons
  have HQS := Aside0.mk hqs
  have HQ39 := Aside0.mk hq39
  have HNR := Aside0.mk hnr
  have HKY := Aside0.mk hky
  have HEX := Aside0.mk hex
  have HLL := Aside0.mk hll
  clear hU hls hcons hqs hq39 hnr hky hex hll
  obtain ⟨L, hL⟩ : ∃ L, L = s.data.toList.drop a := ⟨_, rfl⟩
  have HL := Aside0.mk hL
  unfold wordL at hw
  rcases hnl with ⟨hlet, hnn, hn1⟩ | ⟨hlet, hnn⟩
  · -- a name or a key
    rw [if_pos hlet, ← hnn] at hw
    have hnle : nmL (s.data.toList.drop a) ≤ (s.data.toList.drop a).length := by rw [hnn]; exact runL_le _ _ _
    have hk := fun W => HKY.out (nmL (s.data.toList.drop a)) W hnle
    rw [HEX.out] at hk
    rw [HLL.out] at hnle
    have hxt : s.extract a (a + nmL (s.data.toList.drop a)) = ⟨((s.data.toList.drop a).take (nmL (s.data.toList.drop a))).toArray⟩ := ba_of _ _ (HEX.out _)
    generalize nmL (s.data.toList.drop a) = m at hw hn1 hnm hk hxt hnle
    generalize (s.data.toList.drop a).take m = g at hw hk hxt
    have hm0 : (0 : Int) < (m : Int) := by omega
    have hmi : (a : Int) + (m : Int) ≤ (s.size : Int) := by omega
    have HXT := Aside0.mk hxt
    have hma : (m : Int) ≤ 4096 := by omega
    clear hnn hL hlet hdg hget hnu htx hsg hne hxt hnle
    obtain ⟨K, hK⟩ : ∃ K, K = keyL g := ⟨_, rfl⟩
    rw [← hK] at hw hk
    clear hK
    by_cases hk0 : K = []
    · subst hk0
      rw [if_pos rfl] at hw
      by_cases h32 : 32 < m
      · rw [if_pos h32] at hw
        have h32i : (32 : Int) < (m : Int) := by omega
        simp only [Prod.mk.injEq] at hw
        obtain ⟨rfl, ⟨rfl, rfl, rfl, rfl⟩, rfl⟩ := hw
        go_enter Tryd.func29, Tryd.ntmps29
        go_wp2_with (go_at_call 40; refine (hnm _ (below_more (Below.refl _ _) _)).mono ?_)
        first
          | (intro e W1 he hb1; subst he)
          | rintro e W1 ⟨rfl, hb1⟩
        have HB1 : Below w.heap.size w W1 := by first | exact below_one hb1 | exact below_box hb1
        have hbx1 : BoxT W1 w.heap.size #[.int .i64 0, .string ⟨#[]⟩, .int .i64 0, .int .i64 0] := by first | exact boxT_one hb1 | exact boxT_two hb1
        have hbc1 := hbx1.cells
        have hbf1 := hbx1.free
        clear hb1 hnm
        go_wp2_with (go_at_call 13; refine (hk _).mono ?_)
        first
          | (intro e W2 he hb2; subst he)
          | rintro e W2 ⟨rfl, hb2⟩
        have HB2 := below_then HB1 hb2
        have hbx2 := hbx1.kept hb2
        have hbc2 := hbx2.cells
        have hbf2 := hbx2.free
        clear hb2 hbx1 hbc1 hbf1 HB1 hk
        go_wp2
        refine bodyPost_ret (results_tok rfl rfl ((((hbx2.put 0 _).put 1 _).put 2 _).put 3 _) rfl) rfl ?_
        refine ⟨?_, below_set (below_set (below_set (below_set HB2 (by simp) _) (by simp) _) (by simp) _) (by simp) _⟩
        exact rfl
      · rw [if_neg h32] at hw
        have h32i : ¬ (32 : Int) < (m : Int) := by omega
        simp only [Prod.mk.injEq] at hw
        obtain ⟨rfl, ⟨rfl, rfl, rfl, rfl⟩, rfl⟩ := hw
        go_enter Tryd.func29, Tryd.ntmps29
        go_wp2_with (go_at_call 40; refine (hnm _ (below_more (Below.refl _ _) _)).mono ?_)
        first
          | (intro e W1 he hb1; subst he)
          | rintro e W1 ⟨rfl, hb1⟩
        have HB1 : Below w.heap.size w W1 := by first | exact below_one hb1 | exact below_box hb1
        have hbx1 : BoxT W1 w.heap.size #[.int .i64 0, .string ⟨#[]⟩, .int .i64 0, .int .i64 0] := by first | exact boxT_one hb1 | exact boxT_two hb1
        have hbc1 := hbx1.cells
        have hbf1 := hbx1.free
        clear hb1 hnm
        go_wp2_with (go_at_call 13; refine (hk _).mono ?_)
        first
          | (intro e W2 he hb2; subst he)
          | rintro e W2 ⟨rfl, hb2⟩
        have HB2 := below_then HB1 hb2
        have hbx2 := hbx1.kept hb2
        have hbc2 := hbx2.cells
        have hbf2 := hbx2.free
        clear hb2 hbx1 hbc1 hbf1 HB1 hk
        go_wp2
        refine bodyPost_ret (results_tok rfl rfl ((((hbx2.put 0 _).put 1 _).put 2 _).put 3 _) rfl) rfl ?_
        refine ⟨?_, below_set (below_set (below_set (below_set HB2 (by simp) _) (by simp) _) (by simp) _) (by simp) _⟩
        show Ending.returned (.tuple #[.agg #[.int .i64 1, .string (s.extract a (a + m)), .int .i64 0, .int .i64 (a : Int)], .int .i64 m, .int .i64 0]) = _
        rw [HXT.out]
    · rw [if_neg hk0] at hw
      have hkb : ((⟨K.toArray⟩ : ByteArray).toList == ([] : List UInt8)) = false := by
        rw [Lib.toList_data]
        simpa using hk0
      have hke : K.isEmpty = false := by simpa using hk0
      simp only [Prod.mk.injEq] at hw
      obtain ⟨rfl, ⟨rfl, rfl, rfl, rfl⟩, rfl⟩ := hw
      go_enter Tryd.func29, Tryd.ntmps29
      go_wp2_with (go_at_call 40; refine (hnm _ (below_more (Below.refl _ _) _)).mono ?_)
      first
        | (intro e W1 he hb1; subst he)
        | rintro e W1 ⟨rfl, hb1⟩
      have HB1 : Below w.heap.size w W1 := by first | exact below_one hb1 | exact below_box hb1
      have hbx1 : BoxT W1 w.heap.size #[.int .i64 0, .string ⟨#[]⟩, .int .i64 0, .int .i64 0] := by first | exact boxT_one hb1 | exact boxT_two hb1
      have hbc1 := hbx1.cells
      have hbf1 := hbx1.free
      clear hb1 hnm
      go_wp2_with (go_at_call 13; refine (hk _).mono ?_)
      first
        | (intro e W2 he hb2; subst he)
        | rintro e W2 ⟨rfl, hb2⟩
      have HB2 := below_then HB1 hb2
      have hbx2 := hbx1.kept hb2
      have hbc2 := hbx2.cells
      have hbf2 := hbx2.free
      clear hb2 hbx1 hbc1 hbf1 HB1 hk
      go_wp2
      refine bodyPost_ret (results_tok rfl rfl ((((hbx2.put 0 _).put 1 _).put 2 _).put 3 _) rfl) rfl ?_
      refine ⟨?_, below_set (below_set (below_set (below_set HB2 (by simp) _) (by simp) _) (by simp) _) (by simp) _⟩
      exact rfl
  · -- no name
    rw [if_neg (by rw [hlet]; simp)] at hw
    rw [hnn] at hnm
    clear hnn hlet HKY
    cases hd : digitB ((Lib.decodeL (s.data.toList.drop a)).1 : Int)
    · rw [hd] at hdg hw
      rw [if_neg (by simp)] at hw
      clear hnu hd
      by_cases hq : b = 39
      · rw [if_pos (HQS.out.2 hq)] at hw
        rw [HQ39.out b rfl hq] at htx
        generalize quotL (s.data.toList.drop a) = R at hw htx
        obtain ⟨T, m⟩ := R
        have hb39 : ((b.toNat : Int) == 39) = true := by rw [hq]; rfl
        simp only at hw htx
        clear hq hsg hL hne
        by_cases hm : m = 0
        · subst hm
          rw [if_pos rfl] at hw
          simp only [Prod.mk.injEq] at hw
          obtain ⟨rfl, ⟨rfl, rfl, rfl, rfl⟩, rfl⟩ := hw
          go_enter Tryd.func29, Tryd.ntmps29
          go_wp2_with (go_at_call 40; refine (hnm _ (below_more (Below.refl _ _) _)).mono ?_)
          first
            | (intro e W1 he hb1; subst he)
            | rintro e W1 ⟨rfl, hb1⟩
          have HB1 : Below w.heap.size w W1 := by first | exact below_one hb1 | exact below_box hb1
          have hbx1 : BoxT W1 w.heap.size #[.int .i64 0, .string ⟨#[]⟩, .int .i64 0, .int .i64 0] := by first | exact boxT_one hb1 | exact boxT_two hb1
          have hbc1 := hbx1.cells
          have hbf1 := hbx1.free
          clear hb1 hnm
          go_wp2_with (first | (go_at_call 41; refine (hdg _).mono ?_; rintro e w9 ⟨rfl, rfl⟩) | (go_at_call 43; refine (htx _ HB1).mono ?_))
          first
            | (intro e W2 he hb2; subst he)
            | rintro e W2 ⟨rfl, hb2⟩
          have HB2 := below_then HB1 hb2
          have hbx2 := hbx1.kept hb2
          have hbc2 := hbx2.cells
          have hbf2 := hbx2.free
          clear hb2 hbx1 hbc1 hbf1 HB1 htx hdg
          go_wp2
          refine bodyPost_ret (results_tok rfl rfl ((((hbx2.put 0 _).put 1 _).put 2 _).put 3 _) rfl) rfl ?_
          refine ⟨?_, below_set (below_set (below_set (below_set HB2 (by simp) _) (by simp) _) (by simp) _) (by simp) _⟩
          exact rfl
        · rw [if_neg hm] at hw
          have hmb : ((m : Int) == 0) = false := by rw [beq_eq_false_iff_ne]; omega
          simp only [Prod.mk.injEq] at hw
          obtain ⟨rfl, ⟨rfl, rfl, rfl, rfl⟩, rfl⟩ := hw
          go_enter Tryd.func29, Tryd.ntmps29
          go_wp2_with (go_at_call 40; refine (hnm _ (below_more (Below.refl _ _) _)).mono ?_)
          first
            | (intro e W1 he hb1; subst he)
            | rintro e W1 ⟨rfl, hb1⟩
          have HB1 : Below w.heap.size w W1 := by first | exact below_one hb1 | exact below_box hb1
          have hbx1 : BoxT W1 w.heap.size #[.int .i64 0, .string ⟨#[]⟩, .int .i64 0, .int .i64 0] := by first | exact boxT_one hb1 | exact boxT_two hb1
          have hbc1 := hbx1.cells
          have hbf1 := hbx1.free
          clear hb1 hnm
          go_wp2_with (first | (go_at_call 41; refine (hdg _).mono ?_; rintro e w9 ⟨rfl, rfl⟩) | (go_at_call 43; refine (htx _ HB1).mono ?_))
          first
            | (intro e W2 he hb2; subst he)
            | rintro e W2 ⟨rfl, hb2⟩
          have HB2 := below_then HB1 hb2
          have hbx2 := hbx1.kept hb2
          have hbc2 := hbx2.cells
          have hbf2 := hbx2.free
          clear hb2 hbx1 hbc1 hbf1 HB1 htx hdg
          go_wp2
          refine bodyPost_ret (results_tok rfl rfl ((((hbx2.put 0 _).put 1 _).put 2 _).put 3 _) rfl) rfl ?_
          refine ⟨?_, below_set (below_set (below_set (below_set HB2 (by simp) _) (by simp) _) (by simp) _) (by simp) _⟩
          exact rfl
      · rw [if_neg (fun h => hq (HQS.out.1 h))] at hw
        have hb39 : ((b.toNat : Int) == 39) = false := by
          rw [beq_eq_false_iff_ne]; intro e; exact hq (UInt8.toNat.inj (by show b.toNat = 39; omega))
        generalize signL (s.data.toList.drop a) = G at hw hsg
        clear hq htx hL hne
        by_cases hg : G = []
        · subst hg
          rw [if_pos rfl] at hw
          simp only [Prod.mk.injEq] at hw
          obtain ⟨rfl, ⟨rfl, rfl, rfl, rfl⟩, rfl⟩ := hw
          go_enter Tryd.func29, Tryd.ntmps29
          go_wp2_with (go_at_call 40; refine (hnm _ (below_more (Below.refl _ _) _)).mono ?_)
          first
            | (intro e W1 he hb1; subst he)
            | rintro e W1 ⟨rfl, hb1⟩
          have HB1 : Below w.heap.size w W1 := by first | exact below_one hb1 | exact below_box hb1
          have hbx1 : BoxT W1 w.heap.size #[.int .i64 0, .string ⟨#[]⟩, .int .i64 0, .int .i64 0] := by first | exact boxT_one hb1 | exact boxT_two hb1
          have hbc1 := hbx1.cells
          have hbf1 := hbx1.free
          clear hb1 hnm
          go_wp2_with (first | (go_at_call 41; refine (hdg _).mono ?_; rintro e w9 ⟨rfl, rfl⟩) | (go_at_call 44; refine (hsg _).mono ?_))
          first
            | (intro e W2 he hb2; subst he)
            | rintro e W2 ⟨rfl, hb2⟩
          have HB2 := below_then HB1 hb2
          have hbx2 := hbx1.kept hb2
          have hbc2 := hbx2.cells
          have hbf2 := hbx2.free
          clear hb2 hbx1 hbc1 hbf1 HB1 hsg hdg
          go_wp2
          refine bodyPost_ret (results_tok rfl rfl ((((hbx2.put 0 _).put 1 _).put 2 _).put 3 _) rfl) rfl ?_
          refine ⟨?_, below_set (below_set (below_set (below_set HB2 (by simp) _) (by simp) _) (by simp) _) (by simp) _⟩
          exact rfl
        · rw [if_neg hg] at hw
          have hgb : ((⟨G.toArray⟩ : ByteArray).toList == ([] : List UInt8)) = false := by
            rw [Lib.toList_data]
            simpa using hg
          have hge : G.isEmpty = false := by simpa using hg
          have hgs : (⟨G.toArray⟩ : ByteArray).size = G.length := by show G.toArray.size = _; simp
          have HGS := Aside0.mk hgs
          clear hgs
          simp only [Prod.mk.injEq] at hw
          obtain ⟨rfl, ⟨rfl, rfl, rfl, rfl⟩, rfl⟩ := hw
          go_enter Tryd.func29, Tryd.ntmps29
          go_wp2_with (go_at_call 40; refine (hnm _ (below_more (Below.refl _ _) _)).mono ?_)
          first
            | (intro e W1 he hb1; subst he)
            | rintro e W1 ⟨rfl, hb1⟩
          have HB1 : Below w.heap.size w W1 := by first | exact below_one hb1 | exact below_box hb1
          have hbx1 : BoxT W1 w.heap.size #[.int .i64 0, .string ⟨#[]⟩, .int .i64 0, .int .i64 0] := by first | exact boxT_one hb1 | exact boxT_two hb1
          have hbc1 := hbx1.cells
          have hbf1 := hbx1.free
          clear hb1 hnm
          go_wp2_with (first | (go_at_call 41; refine (hdg _).mono ?_; rintro e w9 ⟨rfl, rfl⟩) | (go_at_call 44; refine (hsg _).mono ?_))
          first
            | (intro e W2 he hb2; subst he)
            | rintro e W2 ⟨rfl, hb2⟩
          have HB2 := below_then HB1 hb2
          have hbx2 := hbx1.kept hb2
          have hbc2 := hbx2.cells
          have hbf2 := hbx2.free
          clear hb2 hbx1 hbc1 hbf1 HB1 hsg hdg
          go_wp2
          refine bodyPost_ret (results_tok rfl rfl ((((hbx2.put 0 _).put 1 _).put 2 _).put 3 _) rfl) rfl ?_
          refine ⟨?_, below_set (below_set (below_set (below_set HB2 (by simp) _) (by simp) _) (by simp) _) (by simp) _⟩
          exact rfl
    · rw [hd] at hdg hw
      rw [if_pos rfl] at hw
      clear htx hsg hd hL hne
      obtain ⟨V, N, B, hR⟩ : ∃ V N B, numR (s.data.toList.drop a) 0 0 false = (V, N, B) := ⟨_, _, _, rfl⟩
      have hnr := HNR.out
      rw [hR] at hnu hnr
      obtain ⟨hr1, -, hr0⟩ := hnr
      obtain ⟨hr2, hr3⟩ := hr0 rfl
      rw [Nat.zero_add] at hr1
      clear hr0
      rw [← hr1] at hw
      simp only at hnu
      cases hv : numD ((s.data.toList.drop a).take N) 0 with
      | none =>
        rw [← hr1, hv] at hr2
        simp only [Option.isNone_none] at hr2
        subst hr2
        rw [Bool.not_true] at hnu
        rw [hv] at hw
        simp only at hw
        clear hr3 hr1 hR hv HNR HQ39 HQS
        simp only [Prod.mk.injEq] at hw
        obtain ⟨rfl, ⟨rfl, rfl, rfl, rfl⟩, rfl⟩ := hw
        go_enter Tryd.func29, Tryd.ntmps29
        go_wp2_with (go_at_call 40; refine (hnm _ (below_more (Below.refl _ _) _)).mono ?_)
        first
          | (intro e W1 he hb1; subst he)
          | rintro e W1 ⟨rfl, hb1⟩
        have HB1 : Below w.heap.size w W1 := by first | exact below_one hb1 | exact below_box hb1
        have hbx1 : BoxT W1 w.heap.size #[.int .i64 0, .string ⟨#[]⟩, .int .i64 0, .int .i64 0] := by first | exact boxT_one hb1 | exact boxT_two hb1
        have hbc1 := hbx1.cells
        have hbf1 := hbx1.free
        clear hb1 hnm
        go_wp2_with (first | (go_at_call 41; refine (hdg _).mono ?_; rintro e w9 ⟨rfl, rfl⟩) | (go_at_call 42; refine (hnu _).mono ?_))
        first
          | (intro e W2 he hb2; subst he; subst hb2)
          | rintro e W2 ⟨rfl, rfl⟩
        go_wp2
        refine bodyPost_ret (results_tok rfl rfl ((((hbx1.put 0 _).put 1 _).put 2 _).put 3 _) rfl) rfl ?_
        refine ⟨?_, below_set (below_set (below_set (below_set HB1 (by simp) _) (by simp) _) (by simp) _) (by simp) _⟩
        exact rfl
      | some vv =>
        rw [← hr1, hv] at hr2
        simp only [Option.isNone_some] at hr2
        subst hr2
        rw [Bool.not_false] at hnu
        rw [hv] at hw
        simp only at hw
        obtain rfl : V = vv := hr3 vv (by rw [← hr1]; exact hv)
        clear hr3 hr1 hR hv HNR HQ39 HQS
        simp only [Prod.mk.injEq] at hw
        obtain ⟨rfl, ⟨rfl, rfl, rfl, rfl⟩, rfl⟩ := hw
        go_enter Tryd.func29, Tryd.ntmps29
        go_wp2_with (go_at_call 40; refine (hnm _ (below_more (Below.refl _ _) _)).mono ?_)
        first
          | (intro e W1 he hb1; subst he)
          | rintro e W1 ⟨rfl, hb1⟩
        have HB1 : Below w.heap.size w W1 := by first | exact below_one hb1 | exact below_box hb1
        have hbx1 : BoxT W1 w.heap.size #[.int .i64 0, .string ⟨#[]⟩, .int .i64 0, .int .i64 0] := by first | exact boxT_one hb1 | exact boxT_two hb1
        have hbc1 := hbx1.cells
        have hbf1 := hbx1.free
        clear hb1 hnm
        go_wp2_with (first | (go_at_call 41; refine (hdg _).mono ?_; rintro e w9 ⟨rfl, rfl⟩) | (go_at_call 42; refine (hnu _).mono ?_))
        first
          | (intro e W2 he hb2; subst he; subst hb2)
          | rintro e W2 ⟨rfl, rfl⟩
        go_wp2
        refine bodyPost_ret (results_tok rfl rfl ((((hbx1.put 0 _).put 1 _).put 2 _).put 3 _) rfl) rfl ?_
        refine ⟨?_, below_set (below_set (below_set (below_set HB1 (by simp) _) (by simp) _) (by simp) _) (by simp) _⟩
        exact rfl
end Go.Proofs.YtokhbjagcnjiaaaDoor
