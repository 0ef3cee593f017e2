/- The document's oneType, types: the first type that may not be. -/
import Derived.Test.YtffifhinhemkdaaDoorRkA
import Derived.Test.YtffifhinhemkdaaDoorRgRN
set_option linter.unusedVariables false
set_option linter.unusedSimpArgs false
namespace Go.Proofs.YtffifhinhemkdaaDoor
open Go.RowKit

theorem propBad_eq (seen : List (List UInt8)) (pn : ByteArray) (pk : Int) : propBad seen ⟨pn, pk⟩ = (decide (pn.data.toList ∈ seen) || (!nameB pn || (decide (pk < 1) || decide (3 < pk)))) := rfl
theorem declR_at (ts : List TD) (j : Nat) (h : j < ts.length) : declR ((ts.take j).map TD.key) j (ts.drop j) = if typeErr ((ts.take j).map TD.key) j (ts.getD j TD.zero) = 0 then declR ((ts.take (j + 1)).map TD.key) (j + 1) (ts.drop (j + 1)) else some (j, typeErr ((ts.take j).map TD.key) j (ts.getD j TD.zero)) := by
  rw [drop_cons ts TD.zero j h, declR, take_getD ts TD.zero j h, List.map_append]
  rfl
set_option maxRecDepth 100000 in
set_option maxHeartbeats 12800000 in
theorem oneType_any (A : Option Addr) (ts : List TD) (c i : Nat) (w : World) (hr : ReadsT w A ts) (hi : i < ts.length) (hT : Lib.Utf8Tabs 0 1 w) (hN : ts.length ≤ 4000000000000) (hTB : ∀ W W', Below W.heap.size W W' → Lib.Utf8Tabs 0 1 W → Lib.Utf8Tabs 0 1 W') :
    Calls Tryd.prog 36 #[.slice A ts.length c, .int .i64 (i : Int)] w fun e w' => e = .returned (.int .i64 (typeErr ((ts.take i).map TD.key) i (ts.getD i TD.zero))) ∧ Below w.heap.size w w' := by
  have HR := Aside0.mk hr
  obtain ⟨ad, hA, hh⟩ := hr.row i hi
  subst hA
  have hps := hr.props _ (getD_in ts TD.zero i hi)
  obtain ⟨t, ht⟩ : ∃ t, t = ts.getD i TD.zero := ⟨_, rfl⟩
  rw [← ht] at hh hps ⊢
  obtain ⟨tn, tA, ps, tc⟩ := t
  obtain ⟨n, hn⟩ : ∃ n, n = ts.length := ⟨_, rfl⟩
  obtain ⟨q, hq⟩ : ∃ q, q = ps.length := ⟨_, rfl⟩
  have hq9 : (q : Int) ≤ 9223372036854775807 := by have := hps.len; simp only at this; omega
  have hn9 : (n : Int) ≤ 4000000000000 := by omega
  have hin : i < n := by omega
  have hini : (i : Int) < (n : Int) := by omega
  have hi0 : (0 : Int) ≤ (i : Int) := by omega
  have HN := Aside0.mk (And.intro hn hq)
  have HPS := Aside0.mk hps
  have HNM : Aside0 (∀ (s : ByteArray) W, Below w.heap.size w W → Calls Tryd.prog 7 #[.string s] W fun e w' => e = .returned (.bool (nameB s)) ∧ Below W.heap.size W w') := ⟨fun s W h => rname_any s W (hTB _ _ h hT)⟩
  have HC : Aside0 (∀ X, Below w.heap.size w X → X.cell? (ad.add (i * 2)) = some (.string tn) ∧ X.cell? ⟨(ad.add (i * 2)).block, (ad.add (i * 2)).off + 1, none⟩ = some (.slice tA q tc)) := ⟨fun X h => by
    have h2 := hh.below h
    exact ⟨h2.c0, by rw [hq]; exact h2.c1⟩⟩
  obtain ⟨TE, hTE⟩ : ∃ TE, TE = typeErr ((ts.take i).map TD.key) i ⟨tn, tA, ps, tc⟩ := ⟨_, rfl⟩
  rw [← hTE, ← hn]
  have hTE : TE = if 64 ≤ i then 2 else if nameB tn = false then 41 else if tn.data.toList ∈ (ts.take i).map TD.key then 42 else if 32 < ps.length then 2 else if propsBad [] ps = true then 43 else 0 := by rw [hTE]; rfl
  have H64 : Aside0 (64 ≤ i → TE = 2) := ⟨fun h => by rw [hTE, if_pos h]⟩
  have H41 : Aside0 (i < 64 → nameB tn = false → TE = 41) := ⟨fun h h1 => by rw [hTE, if_neg (by omega), if_pos h1]⟩
  have H42 : Aside0 (i < 64 → nameB tn = true → tn.data.toList ∈ (ts.take i).map TD.key → TE = 42) := ⟨fun h h1 h2 => by rw [hTE, if_neg (by omega), if_neg (by rw [h1]; decide), if_pos h2]⟩
  have H2 : Aside0 (i < 64 → nameB tn = true → ¬ tn.data.toList ∈ (ts.take i).map TD.key → 32 < ps.length → TE = 2) := ⟨fun h h1 h2 h3 => by rw [hTE, if_neg (by omega), if_neg (by rw [h1]; decide), if_neg h2, if_pos h3]⟩
  have H43 : Aside0 (i < 64 → nameB tn = true → ¬ tn.data.toList ∈ (ts.take i).map TD.key → ¬ 32 < ps.length → TE = if propsBad [] ps = true then 43 else 0) := ⟨fun h h1 h2 h3 => by rw [hTE, if_neg (by omega), if_neg (by rw [h1]; decide), if_neg h2, if_neg h3]⟩
  clear hTE hr hi hh hps ht hn hq hT hTB
  go_enter Tryd.func36, Tryd.ntmps36
  by_cases h64 : 64 ≤ i
  · have h64i : (64 : Int) ≤ (i : Int) := by omega
    have he := H64.out h64
    subst he
    go_wp2
    go_ret
    exact ⟨rfl, Below.refl _ _⟩
  · have h64i : (i : Int) < 64 := by omega
    have h64l : i < 64 := by omega
    obtain ⟨a0, a1⟩ := HC.out w (Below.refl _ _)
    obtain ⟨nb, hnb⟩ : ∃ nb, nb = nameB tn := ⟨_, rfl⟩
    have hnm := HNM.out tn w (Below.refl _ _)
    rw [← hnb] at hnm
    have HNB := Aside0.mk hnb
    clear hnb
    go_upto_region 4 with (go_at_call 7; go_loud (refine hnm.mono ?_); (first | (intro e W1 he hb1; subst he) | rintro e W1 ⟨rfl, hb1⟩))
    have HB1 := Aside0.mk hb1
    clear hb1 hnm a0 a1
    cases nb with
    | false =>
      have he := H41.out h64l HNB.out.symm
      subst he
      go_wp2
      go_ret
      exact ⟨rfl, HB1.out⟩
    | true =>
      go_wp2
      go_loopg [6] (i + 1) (fun gg s6 wx => ∃ (k : Nat), k ≤ i ∧ i < gg + k ∧ s6 = .int .i64 k ∧ Aside0 (¬ tn.data.toList ∈ (ts.take k).map TD.key) ∧ Aside0 (Below w.heap.size w wx))
      case atStart => exact ⟨0, by omega, by omega, rfl, ⟨by simp⟩, HB1⟩
      case round =>
        obtain ⟨k, hk, hg, rfl, HF, HW⟩ := hrel
        have hk0 : (0 : Int) ≤ (k : Int) := by omega
        by_cases hkt : k < i
        · have hkti : (k : Int) < (i : Int) := by omega
          have hknn : k < n := by omega
          have hkni : (k : Int) < (n : Int) := by omega
          have hkl : k < ts.length := by have := HN.out; omega
          obtain ⟨ad2, e2, hx⟩ := (HR.out.below HW.out).row k hkl
          cases e2
          obtain ⟨x, hxx⟩ : ∃ x, x = ts.getD k TD.zero := ⟨_, rfl⟩
          have HX := Aside0.mk hxx
          rw [← hxx] at hx
          obtain ⟨xs, xA, xp, xc⟩ := x
          obtain ⟨_, _, b0, _⟩ := hx
          simp only at b0
          obtain ⟨a0, a1⟩ := HC.out wr HW.out
          obtain ⟨e1, he1⟩ : ∃ e1, e1 = (xs.toList == tn.toList) := ⟨_, rfl⟩
          have HE : Aside0 (e1 = decide ((ts.getD k TD.zero).key = tn.data.toList)) := ⟨by rw [he1, key_eq, ← HX.out]; rfl⟩
          have he2 := he1.symm
          have HJ := Aside0.mk (And.intro hkt (And.intro hg hkl))
          obtain ⟨GJ, hGJ⟩ : ∃ GJ, GJ = gk := ⟨_, rfl⟩
          have HGJ := Aside0.mk hGJ
          rw [← hGJ] at HJ
          clear hGJ hxx hk hg hkl he1
          go_upto_region 9 with (fail)
          cases e1 with
          | true =>
            have he := H42.out h64l HNB.out.symm (take_mono TD.key ts _ (m := k + 1) HJ.out.1 ((take_step TD.key TD.zero ts _ k HJ.out.2.2).2 (.inr (of_decide_eq_true HE.out.symm))))
            subst he
            go_quiet (fail)
            go_wp2
            go_ret
            exact ⟨rfl, below_then HW.out (by first | exact below_q _ | exact Below.refl _ _ | exact (Below.refl _ _).drew)⟩
          | false =>
            have HF2 : Aside0 (¬ tn.data.toList ∈ (ts.take (k + 1)).map TD.key) := ⟨fun h => by
              rcases (take_step TD.key TD.zero ts _ k HJ.out.2.2).1 h with h | h
              · exact HF.out h
              · exact of_decide_eq_false HE.out.symm h⟩
            go_quiet (fail)
            go_wp2
            go_roundg (GJ - 1)
            case measure => have := HJ.out; have := HGJ.out; omega
            case rel => exact ⟨k + 1, by have := HJ.out; omega, by have := HJ.out; omega, by first | rfl | go_num, HF2, ⟨below_then HW.out (by first | exact below_q _ | exact Below.refl _ _ | exact (Below.refl _ _).drew)⟩⟩
        · have hkn : k = i := by omega
          subst k
          obtain ⟨wd, rfl⟩ : ∃ wd : World, wd = wr := ⟨_, rfl⟩
          have HWD := HW
          have HFD := HF
          obtain ⟨a0, a1⟩ := HC.out wd HWD.out
          clear HW HF hk hg hk0 hkt
          by_cases h32 : 32 < q
          · have h32i : (32 : Int) < (q : Int) := by omega
            have he := H2.out h64l HNB.out.symm HFD.out (by have := HN.out; omega)
            subst he
            go_wp2
            go_ret
            exact ⟨rfl, HWD.out⟩
          · have h32i : (q : Int) ≤ 32 := by omega
            have HTE := Aside0.mk (H43.out h64l HNB.out.symm HFD.out (by have := HN.out; omega))
            obtain ⟨PB, hPB⟩ : ∃ PB, PB = propsBad [] ps := ⟨_, rfl⟩
            have HPB := Aside0.mk hPB
            rw [← hPB] at HTE
            clear hPB
            go_wp2
            clear a0 a1
            go_loopg [5, 8] (q + 1) (fun gg s5 s8 wx => ∃ (k : Nat), k ≤ q ∧ q < gg + k ∧ s8 = .int .i64 k ∧ Aside0 (propsBad ((ps.take k).map PD.key) (ps.drop k) = PB) ∧ Aside0 (Below w.heap.size w wx))
            case atStart => exact ⟨0, by omega, by omega, rfl, ⟨HPB.out.symm⟩, HWD⟩
            case round =>
              obtain ⟨k, hk, hg, rfl, HF, HW⟩ := hrel
              have hk0 : (0 : Int) ≤ (k : Int) := by omega
              by_cases hkt : k < q
              · have hkti : (k : Int) < (q : Int) := by omega
                have hkl : k < ps.length := by have := HN.out; omega
                obtain ⟨pa, hpa, hx⟩ := (HPS.out.below HW.out).row k hkl
                try simp only at hpa
                subst hpa
                have hbad := propsBad_at ps k hkl
                rw [HF.out] at hbad
                obtain ⟨p, hp⟩ : ∃ p, p = ps.getD k PD.zero := ⟨_, rfl⟩
                rw [← hp] at hx hbad
                obtain ⟨pn, pk⟩ := p
                have HXC : Aside0 (∀ X, Below wr.heap.size wr X → HoldsP X (pa.add (k * 2)) ⟨pn, pk⟩) := ⟨fun X h => hx.below h⟩
                have HPK := Aside0.mk hp
                obtain ⟨_, _, p0, p1⟩ := hx
                simp only at p0 p1
                have HBAD := Aside0.mk hbad
                obtain ⟨nb, hnb⟩ : ∃ nb, nb = nameB pn := ⟨_, rfl⟩
                have hnm := HNM.out pn wr HW.out
                rw [← hnb] at hnm
                have HNB2 := Aside0.mk hnb
                have HJ := Aside0.mk (And.intro hkt (And.intro hg hkl))
                obtain ⟨GJ, hGJ⟩ : ∃ GJ, GJ = gk := ⟨_, rfl⟩
                have HGJ := Aside0.mk hGJ
                rw [← hGJ] at HJ
                clear hGJ hp hk hg hkl hbad hnb
                go_upto_region 18 with (go_at_call 7; go_loud (refine hnm.mono ?_); (first | (intro e W5 he hb5; subst he) | rintro e W5 ⟨rfl, hb5⟩))
                have HW5 := Aside0.mk (below_then HW.out hb5)
                have HX5 := Aside0.mk (HXC.out W5 hb5)
                clear hb5 hnm p0 p1
                have h5 := HX5.out
                obtain ⟨_, _, p0, p1⟩ := h5
                simp only at p0 p1
                have HFOUND : Aside0 ((pn.data.toList ∈ (ps.take k).map PD.key ∨ nb = false ∨ pk < 1 ∨ 3 < pk) → TE = 43) := ⟨fun h => by
                  have hb : propBad ((ps.take k).map PD.key) ⟨pn, pk⟩ = true := by
                    rw [propBad_eq, ← HNB2.out]
                    rcases h with h | h | h | h
                    · rw [decide_eq_true h]; rfl
                    · rw [h]; simp
                    · rw [decide_eq_true h]; simp
                    · rw [decide_eq_true h]; simp
                  have h2 := HBAD.out
                  rw [hb, Bool.true_or] at h2
                  rw [HTE.out, h2, if_pos rfl]⟩
                cases nb with
                | false =>
                  have he := HFOUND.out (.inr (.inl rfl))
                  subst he
                  go_wp2
                  go_ret
                  exact ⟨rfl, HW5.out⟩
                | true =>
                  by_cases hk1 : pk < 1
                  · have he := HFOUND.out (.inr (.inr (.inl hk1)))
                    subst he
                    go_wp2
                    go_ret
                    exact ⟨rfl, HW5.out⟩
                  · have hk1b : 1 ≤ pk := by omega
                    by_cases hk3 : 3 < pk
                    · have he := HFOUND.out (.inr (.inr (.inr hk3)))
                      subst he
                      go_wp2
                      go_ret
                      exact ⟨rfl, HW5.out⟩
                    · have hk3b : pk ≤ 3 := by omega
                      go_wp2
                      clear p0 p1
                      obtain ⟨we, hwe⟩ : ∃ we : World, we = wr := ⟨_, rfl⟩
                      rw [← hwe] at HW HXC
                      clear hwe
                      have HKI : Aside0 (k < q ∧ (k : Int) < (q : Int) ∧ (0 : Int) ≤ (k : Int)) := ⟨hkt, hkti, hk0⟩
                      go_loopg [9] (k + 1) (fun gg s9 wx => ∃ (u : Nat), u ≤ k ∧ k < gg + u ∧ s9 = .int .i64 u ∧ Aside0 (¬ pn.data.toList ∈ (ps.take u).map PD.key) ∧ Aside0 (Below w.heap.size w wx))
                      case atStart => exact ⟨0, by omega, by omega, rfl, ⟨by simp⟩, HW5⟩
                      case round =>
                        obtain ⟨u, hu, hgu, rfl, HFU, HWU⟩ := hrel
                        have hu0 : (0 : Int) ≤ (u : Int) := by omega
                        by_cases hut : u < k
                        · have huti : (u : Int) < (k : Int) := by omega
                          have huq : u < q := by omega
                          have huqi : (u : Int) < (q : Int) := by omega
                          have hul : u < ps.length := by have := HN.out; omega
                          obtain ⟨pa2, e2, hy⟩ := (HPS.out.below HWU.out).row u hul
                          cases e2
                          obtain ⟨pa3, e3, hz⟩ := (HPS.out.below HWU.out).row k HJ.out.2.2
                          cases e3
                          rw [← HPK.out] at hz
                          obtain ⟨y, hyy⟩ : ∃ y, y = ps.getD u PD.zero := ⟨_, rfl⟩
                          have HY := Aside0.mk hyy
                          rw [← hyy] at hy
                          obtain ⟨yn, yk⟩ := y
                          obtain ⟨_, _, y0, _⟩ := hy
                          obtain ⟨_, _, z0, _⟩ := hz
                          simp only at y0 z0
                          obtain ⟨e1, he1⟩ : ∃ e1, e1 = (yn.toList == pn.toList) := ⟨_, rfl⟩
                          have HE : Aside0 (e1 = decide ((ps.getD u PD.zero).key = pn.data.toList)) := ⟨by rw [he1, key_eq, ← HY.out]; rfl⟩
                          have he2 := he1.symm
                          have HU := Aside0.mk (And.intro hut (And.intro hgu hul))
                          obtain ⟨GU, hGU⟩ : ∃ GU, GU = gk := ⟨_, rfl⟩
                          have HGU := Aside0.mk hGU
                          rw [← hGU] at HU
                          clear hGU hyy hu hgu hul he1
                          go_upto_region 23 with (fail)
                          cases e1 with
                          | true =>
                            have he := HFOUND.out (.inl (take_mono PD.key ps _ (m := u + 1) HU.out.1 ((take_step PD.key PD.zero ps _ u HU.out.2.2).2 (.inr (of_decide_eq_true HE.out.symm)))))
                            subst he
                            go_quiet (fail)
                            go_wp2
                            go_ret
                            exact ⟨rfl, below_then HWU.out (by first | exact below_q _ | exact Below.refl _ _ | exact (Below.refl _ _).drew)⟩
                          | false =>
                            have HF2 : Aside0 (¬ pn.data.toList ∈ (ps.take (u + 1)).map PD.key) := ⟨fun h => by
                              rcases (take_step PD.key PD.zero ps _ u HU.out.2.2).1 h with h | h
                              · exact HFU.out h
                              · exact of_decide_eq_false HE.out.symm h⟩
                            go_quiet (fail)
                            go_wp2
                            go_roundg (GU - 1)
                            case measure => have := HU.out; have := HGU.out; omega
                            case rel => exact ⟨u + 1, by have := HU.out; omega, by have := HU.out; omega, by first | rfl | go_num, HF2, ⟨below_then HWU.out (by first | exact below_q _ | exact Below.refl _ _ | exact (Below.refl _ _).drew)⟩⟩
                        · have hun : u = k := by omega
                          subst u
                          have HF3 : Aside0 (propsBad ((ps.take (k + 1)).map PD.key) (ps.drop (k + 1)) = PB) := ⟨by
                            have h2 := HBAD.out
                            have hb : propBad ((ps.take k).map PD.key) ⟨pn, pk⟩ = false := by
                              rw [propBad_eq, ← HNB2.out, decide_eq_false HFU.out, decide_eq_false (p := pk < 1) (by omega), decide_eq_false (p := 3 < pk) (by omega)]
                              rfl
                            rw [hb, Bool.false_or] at h2
                            exact h2.symm⟩
                          go_wp2
                          go_roundg (GJ - 1)
                          case measure => have := HJ.out; have := HGJ.out; omega
                          case rel => exact ⟨k + 1, by have := HJ.out; omega, by have := HJ.out; omega, by first | rfl | go_num, HF3, HWU⟩
              · have hkn : k = q := by omega
                subst k
                have HOK : Aside0 (TE = 0) := ⟨by
                  have h := HF.out
                  rw [HN.out.2, List.drop_length] at h
                  rw [HTE.out, ← h]
                  rfl⟩
                have he := HOK.out
                subst he
                go_wp2
                go_ret
                exact ⟨rfl, HW.out⟩
set_option maxRecDepth 100000 in
set_option maxHeartbeats 3200000 in
theorem types_any (A : Option Addr) (ts : List TD) (c : Nat) (w : World) (hr : ReadsT w A ts) (hT : Lib.Utf8Tabs 0 1 w) (hN : ts.length ≤ 4000000000000) (hTB : ∀ W W', Below W.heap.size W W' → Lib.Utf8Tabs 0 1 W → Lib.Utf8Tabs 0 1 W') :
    Calls Tryd.prog 18 #[.slice A ts.length c] w fun e w' => e = .returned (.tuple #[.int .i64 (((declR [] 0 ts).getD (0, 0)).1 : Int), .int .i64 ((declR [] 0 ts).getD (0, 0)).2]) ∧ Below w.heap.size w w' := by
  have HR := Aside0.mk hr
  obtain ⟨DR, hDR⟩ : ∃ DR, DR = declR [] 0 ts := ⟨_, rfl⟩
  rw [← hDR]
  have HDR := Aside0.mk hDR
  obtain ⟨n, hn⟩ : ∃ n, n = ts.length := ⟨_, rfl⟩
  have hn9 : (n : Int) ≤ 4000000000000 := by omega
  have HN := Aside0.mk hn
  have HO : Aside0 (∀ (i : Nat) W, i < ts.length → Below w.heap.size w W → Calls Tryd.prog 36 #[.slice A n c, .int .i64 (i : Int)] W fun e w' => e = .returned (.int .i64 (typeErr ((ts.take i).map TD.key) i (ts.getD i TD.zero))) ∧ Below W.heap.size W w') := ⟨fun i W hi h => by
    rw [hn]
    exact oneType_any A ts c i W (hr.below h) hi (hTB _ _ h hT) hN hTB⟩
  rw [← hn]
  clear hn hr hDR hT hTB hN
  go_enter Tryd.func18, Tryd.ntmps18
  go_wp2
  go_loopg [4] (n + 1) (fun gg s4 wx => ∃ (j : Nat), j ≤ n ∧ n < gg + j ∧ s4 = .int .i64 j ∧ Aside0 (declR ((ts.take j).map TD.key) j (ts.drop j) = DR) ∧ Aside0 (Below w.heap.size w wx))
  case atStart => exact ⟨0, by omega, by omega, rfl, ⟨HDR.out.symm⟩, ⟨Below.refl _ _⟩⟩
  case round =>
    obtain ⟨j, hj, hg, rfl, HF, HW⟩ := hrel
    have hj0 : (0 : Int) ≤ (j : Int) := by omega
    by_cases hjt : j < n
    · have hjti : (j : Int) < (n : Int) := by omega
      have hjl : j < ts.length := by have := HN.out; omega
      have hd := declR_at ts j hjl
      rw [HF.out] at hd
      obtain ⟨er, her⟩ : ∃ er, er = typeErr ((ts.take j).map TD.key) j (ts.getD j TD.zero) := ⟨_, rfl⟩
      have ho := HO.out j wr hjl HW.out
      rw [← her] at hd ho
      have HD := Aside0.mk hd
      have HJ := Aside0.mk (And.intro hjt hg)
      obtain ⟨GJ, hGJ⟩ : ∃ GJ, GJ = gk := ⟨_, rfl⟩
      have HGJ := Aside0.mk hGJ
      rw [← hGJ] at HJ
      clear hGJ hj hg hjl her hd
      go_upto_region 5 with (go_at_call 36; go_loud (refine ho.mono ?_); (first | (intro e W5 he hb5; subst he) | rintro e W5 ⟨rfl, hb5⟩))
      have HW5 := Aside0.mk (below_then HW.out hb5)
      clear hb5 ho
      by_cases he : er = 0
      · subst he
        have HF2 : Aside0 (declR ((ts.take (j + 1)).map TD.key) (j + 1) (ts.drop (j + 1)) = DR) := ⟨by have h := HD.out; rw [if_pos rfl] at h; exact h.symm⟩
        go_wp2
        go_roundg (GJ - 1)
        case measure => have := HJ.out; have := HGJ.out; omega
        case rel => exact ⟨j + 1, by have := HJ.out; omega, by have := HJ.out; omega, by first | rfl | go_num, HF2, HW5⟩
      · have heb : (er == 0) = false := by simp [he]
        have hd := HD.out
        rw [if_neg he] at hd
        subst hd
        try simp only [Option.getD_some]
        go_wp2
        go_ret2
        exact ⟨rfl, HW5.out⟩
    · have hjn : j = n := by omega
      subst j
      have hd := HF.out
      rw [HN.out, List.drop_length] at hd
      have hd2 : DR = none := by rw [← hd]; rfl
      subst hd2
      try simp only [Option.getD_none]
      go_wp2
      go_ret2
      exact ⟨rfl, HW.out⟩
end Go.Proofs.YtffifhinhemkdaaDoor
