/- The document's props: may properties be, of a type? -/
import Derived.Test.YtffifhinhemkdaaDoorRkB
import Derived.Test.YtffifhinhemkdaaDoorRRight
set_option linter.unusedVariables false
set_option linter.unusedSimpArgs false
namespace Go.Proofs.YtffifhinhemkdaaDoor
open Go.RowKit Go.Maps

def declB (l : List PD) (q : QD) : Bool := l.any fun d => decide (d.key = q.key) && (decide (q.v.k = 0) || decide (q.v.k = d.k))
theorem declB_step (l : List PD) (q : QD) (k : Nat) (hk : k < l.length) : declB (l.take (k + 1)) q = (declB (l.take k) q || (decide ((l.getD k PD.zero).key = q.key) && (decide (q.v.k = 0) || decide (q.v.k = (l.getD k PD.zero).k)))) := by
  unfold declB
  rw [take_getD l PD.zero k hk, List.any_append]
  simp
theorem nodup_key : ∀ {l : List PD} {x y : PD}, (l.map PD.key).Nodup → x ∈ l → y ∈ l → x.key = y.key → x = y
  | [], x, y, _, hx, _, _ => by cases hx
  | z :: r, x, y, hn, hx, hy, h => by
    rw [List.map_cons, List.nodup_cons] at hn
    rcases List.mem_cons.1 hx with hx1 | hx2
    · rcases List.mem_cons.1 hy with hy1 | hy2
      · exact hx1.trans hy1.symm
      · exact absurd (by rw [← hx1, h]; exact List.mem_map_of_mem hy2) hn.1
    · rcases List.mem_cons.1 hy with hy1 | hy2
      · exact absurd (by rw [← hy1, ← h]; exact List.mem_map_of_mem hx2) hn.1
      · exact nodup_key hn.2 hx2 hy2 h
theorem kindOf_at {ks : List PD} (hn : (ks.map PD.key).Nodup) {d : PD} (hd : d ∈ ks) : kindOf ks d.key = d.k := by
  obtain ⟨x, hx, h1, h2⟩ := mapD_yes PD.key (fun p : PD => (.lit (.int .i64 p.k) : DataW Unit)) ks.length ks d.key (.lit (.int .i64 0)) rfl (List.mem_map_of_mem hd)
  have e : x = d := nodup_key hn hx hd h1
  unfold kindOf
  rw [h2, e]
theorem declB_ok {ks : List PD} (hn : (ks.map PD.key).Nodup) (q : QD) : declB ks q = (decide (q.key ∈ ks.map PD.key) && (decide (q.v.k = 0) || decide (q.v.k = kindOf ks q.key))) := by
  by_cases hin : q.key ∈ ks.map PD.key
  · obtain ⟨d, hd, hk⟩ := List.mem_map.1 hin
    have hko := kindOf_at hn hd
    rw [hk] at hko
    rw [decide_eq_true hin, Bool.true_and, hko]
    cases hb : (decide (q.v.k = 0) || decide (q.v.k = d.k)) with
    | true =>
      unfold declB
      rw [List.any_eq_true]
      exact ⟨d, hd, by rw [decide_eq_true hk, hb]; rfl⟩
    | false =>
      unfold declB
      rw [List.any_eq_false]
      intro x hx h
      rw [Bool.and_eq_true, decide_eq_true_iff] at h
      have e : x = d := nodup_key hn hx hd (h.1.trans hk.symm)
      rw [e, hb] at h
      cases h.2
  · rw [decide_eq_false hin, Bool.false_and]
    unfold declB
    rw [List.any_eq_false]
    intro x hx h
    rw [Bool.and_eq_true, decide_eq_true_iff] at h
    exact hin (by rw [← h.1]; exact List.mem_map_of_mem hx)
set_option maxRecDepth 100000 in
set_option maxHeartbeats 12800000 in
theorem rprops_any (tn : ByteArray) (TA : Option Addr) (ps : List PD) (tc : Nat) (QA : Option Addr) (qs : List QD) (qcc : Nat) (w : World) (hp : ReadsP w TA ps) (hq : ReadsQ w QA qs) (hnd : (ps.map PD.key).Nodup) (hT : Lib.Utf8Tabs 0 1 w) (hTB : ∀ W W', Below W.heap.size W W' → Lib.Utf8Tabs 0 1 W → Lib.Utf8Tabs 0 1 W') :
    Calls Tryd.prog 37 #[.agg #[.string tn, .slice TA ps.length tc], .slice QA qs.length qcc] w fun e w' => e = .returned (.bool (fitsB ps [] qs)) ∧ Below w.heap.size w w' := by
  have HP := Aside0.mk hp
  have HQ := Aside0.mk hq
  obtain ⟨FB, hFB⟩ : ∃ FB, FB = fitsB ps [] qs := ⟨_, rfl⟩
  rw [← hFB]
  have HFB := Aside0.mk hFB
  obtain ⟨n, hn⟩ : ∃ n, n = qs.length := ⟨_, rfl⟩
  obtain ⟨m, hm⟩ : ∃ m, m = ps.length := ⟨_, rfl⟩
  have hn9 : (n : Int) ≤ 9223372036854775807 := by have := hq.len; omega
  have hm9 : (m : Int) ≤ 9223372036854775807 := by have := hp.len; omega
  have HN := Aside0.mk (And.intro hn hm)
  have HND := Aside0.mk hnd
  have HRI : Aside0 (∀ (k n : Int) (b : Bool) (s : ByteArray) (A : Option Addr) (p : List Int) (c : Nat) W, Below w.heap.size w W → ReadsI W A p → s.size ≤ 9223372036854775807 → Calls Tryd.prog 49 #[.agg #[.int .i64 k, .bool b, .int .i64 n, .string s, .slice A p.length c]] W fun e w' => e = .returned (.bool (rightB k b n s p)) ∧ Below W.heap.size W w') := ⟨fun k n b s A p c W h hr hs => rright_any k n b s A p c W hr hs (hTB _ _ h hT)⟩
  rw [← hn, ← hm]
  clear hn hm hp hq hFB hnd hT hTB
  go_enter Tryd.func37, Tryd.ntmps37
  go_upto_region 1 with (fail)
  obtain ⟨W1, hW1⟩ : ∃ W1, W1 = w.alloc (.cells #[.string tn, .slice TA m tc] 41) := ⟨_, rfl⟩
  obtain ⟨bt, hbt⟩ : ∃ bt, bt = w.heap.size := ⟨_, rfl⟩
  have HT1 : Aside0 (TBox2 W1 bt #[.string tn, .slice TA m tc]) := ⟨by unfold TBox2; rw [hbt, hW1]; exact heap_alloc_new w _⟩
  have HB1 : Aside0 (Below w.heap.size w W1) := ⟨by rw [hW1]; exact below_more (Below.refl _ _) _⟩
  have HTX : Aside0 (∀ X, Below W1.heap.size W1 X → X.cell? ⟨bt, 1, none⟩ = some (.slice TA m tc)) := ⟨fun X h => (h.cell (p := ⟨bt, 1, none⟩) (Array.getElem?_eq_some_iff.1 HT1.out).1).trans (HT1.out.cells 1)⟩
  rw [← hW1, ← hbt]
  clear hW1 hbt
  go_wp2
  go_loopg [5] (n + 1) (fun gg s5 wx => ∃ (j : Nat), j ≤ n ∧ n < gg + j ∧ s5 = .int .i64 j ∧ Aside0 (fitsB ps ((qs.take j).map QD.key) (qs.drop j) = FB) ∧ Aside0 (Below W1.heap.size W1 wx))
  case atStart => exact ⟨0, by omega, by omega, rfl, ⟨HFB.out.symm⟩, ⟨Below.refl _ _⟩⟩
  case round =>
    obtain ⟨j, hj, hg, rfl, HF, HX⟩ := hrel
    have hj0 : (0 : Int) ≤ (j : Int) := by omega
    by_cases hjt : j < n
    · have hjti : (j : Int) < (n : Int) := by omega
      have hjl : j < qs.length := by have := HN.out; omega
      have HXW := Aside0.mk (below_then HB1.out HX.out)
      obtain ⟨pq, hpq, hx⟩ := (HQ.out.below HXW.out).row j hjl
      subst hpq
      have hfa := fitsB_at ps qs j hjl
      rw [HF.out] at hfa
      have hpath := (HQ.out.path _ (getD_in qs QD.zero j hjl)).below HXW.out
      have htx := HQ.out.txt _ (getD_in qs QD.zero j hjl)
      obtain ⟨x, hxx⟩ : ∃ x, x = qs.getD j QD.zero := ⟨_, rfl⟩
      rw [← hxx] at hx hfa hpath htx
      have HXX := Aside0.mk hxx
      have HFA := Aside0.mk hfa
      obtain ⟨qm, ⟨qk, qb, qn, qt, qA, qp, qc⟩⟩ := x
      have HXC : Aside0 (∀ X, Below wr.heap.size wr X → HoldsQ X (pq.add (j * 6)) ⟨qm, ⟨qk, qb, qn, qt, qA, qp, qc⟩⟩) := ⟨fun X h => hx.below h⟩
      obtain ⟨_, _, c0, c1, c2, c3, c4, c5⟩ := hx
      simp only at c0 c1 c2 c3 c4 c5 hpath htx
      obtain ⟨rt, hrt⟩ : ∃ rt, rt = rightB qk qb qn qt qp := ⟨_, rfl⟩
      have hri := HRI.out qk qn qb qt qA qp qc wr HXW.out hpath htx.2
      rw [← hrt] at hri
      have HRT := Aside0.mk hrt
      have HJ := Aside0.mk (And.intro hjt (And.intro hg hjl))
      obtain ⟨GJ, hGJ⟩ : ∃ GJ, GJ = gk := ⟨_, rfl⟩
      have HGJ := Aside0.mk hGJ
      rw [← hGJ] at HJ
      clear hGJ hxx hj hg hjl hfa hpath htx hrt
      go_upto_region 5 with (go_at_call 49; go_loud (refine hri.mono ?_); (first | (intro e W5 he hb5; subst he) | rintro e W5 ⟨rfl, hb5⟩))
      have HX5 := Aside0.mk hb5
      have HX51 := Aside0.mk (below_then HX.out hb5)
      clear hb5 hri c0 c1 c2 c3 c4 c5
      obtain ⟨wo, hwo⟩ : ∃ wo : World, wo = wr := ⟨_, rfl⟩
      rw [← hwo] at HXC HX5 HX HXW
      clear hwo
      have HJI : Aside0 (j < n ∧ (j : Int) < (n : Int)) := ⟨hjt, hjti⟩
      go_wp2
      go_loopg [7, 8] (m + 1) (fun gg s7 s8 wx => ∃ (k : Nat), k ≤ m ∧ m < gg + k ∧ s8 = .int .i64 k ∧ s7 = .bool (declB (ps.take k) ⟨qm, ⟨qk, qb, qn, qt, qA, qp, qc⟩⟩) ∧ Aside0 (Below wo.heap.size wo wx))
      case atStart => exact ⟨0, by omega, by omega, rfl, rfl, HX5⟩
      case round =>
        obtain ⟨k, hk, hgk, rfl, rfl, HY⟩ := hrel
        have hk0 : (0 : Int) ≤ (k : Int) := by omega
        have htc := HTX.out wr (below_then HX.out HY.out)
        by_cases hkt : k < m
        · have hkti : (k : Int) < (m : Int) := by omega
          have hkl : k < ps.length := by have := HN.out; omega
          obtain ⟨pp, hpp, hy⟩ := (HP.out.below (below_then HXW.out HY.out)).row k hkl
          subst hpp
          have hds := declB_step ps ⟨qm, ⟨qk, qb, qn, qt, qA, qp, qc⟩⟩ k hkl
          obtain ⟨d, hd⟩ : ∃ d, d = ps.getD k PD.zero := ⟨_, rfl⟩
          rw [← hd] at hy hds
          obtain ⟨pn, pk⟩ := d
          obtain ⟨_, _, p0, p1⟩ := hy
          have hxc := HXC.out wr HY.out
          obtain ⟨_, _, c0, c1, _, _, _, _⟩ := hxc
          simp only at p0 p1 c0 c1
          obtain ⟨e1, he1⟩ : ∃ e1, e1 = (pn.toList == qm.toList) := ⟨_, rfl⟩
          have HE1 : Aside0 (decide ((⟨pn, pk⟩ : PD).key = (⟨qm, ⟨qk, qb, qn, qt, qA, qp, qc⟩⟩ : QD).key) = e1) := ⟨by rw [he1, key_eq]; rfl⟩
          obtain ⟨d0, hd0⟩ : ∃ d0, d0 = declB (ps.take k) ⟨qm, ⟨qk, qb, qn, qt, qA, qp, qc⟩⟩ := ⟨_, rfl⟩
          obtain ⟨d1, hd1⟩ : ∃ d1, d1 = declB (ps.take (k + 1)) ⟨qm, ⟨qk, qb, qn, qt, qA, qp, qc⟩⟩ := ⟨_, rfl⟩
          rw [← hd0, ← hd1, HE1.out] at hds
          rw [← hd0]
          have HDS := Aside0.mk hds
          have HD1 := Aside0.mk hd1
          have he2 := he1.symm
          have HK := Aside0.mk (And.intro hkt hgk)
          obtain ⟨GK, hGK⟩ : ∃ GK, GK = gk := ⟨_, rfl⟩
          have HGK := Aside0.mk hGK
          rw [← hGK] at HK
          clear hGK hd hk hgk hkl hds hd0 hd1 he1
          go_upto_region 9 with (fail)
          cases d0 with
          | true =>
            have HV : Aside0 (true = d1) := ⟨by rw [HDS.out]; rfl⟩
            go_quiet (fail)
            go_wp2
            go_roundg (GK - 1)
            case measure => have := HK.out; have := HGK.out; omega
            case rel => exact ⟨k + 1, by have := HK.out; omega, by have := HK.out; omega, by first | rfl | go_num, by rw [← HD1.out, ← HV.out], ⟨below_then HY.out (by first | exact below_q _ | exact Below.refl _ _ | exact (Below.refl _ _).drew)⟩⟩
          | false =>
            cases e1 with
            | false =>
              have HV : Aside0 (false = d1) := ⟨by rw [HDS.out]; rfl⟩
              go_quiet (fail)
              go_wp2
              go_roundg (GK - 1)
              case measure => have := HK.out; have := HGK.out; omega
              case rel => exact ⟨k + 1, by have := HK.out; omega, by have := HK.out; omega, by first | rfl | go_num, by rw [← HD1.out, ← HV.out], ⟨below_then HY.out (by first | exact below_q _ | exact Below.refl _ _ | exact (Below.refl _ _).drew)⟩⟩
            | true =>
              by_cases hz : qk = 0
              · have HV : Aside0 (true = d1) := ⟨by rw [HDS.out, decide_eq_true hz]; rfl⟩
                have hzb : (qk == 0) = true := by simp [hz]
                have HZ := Aside0.mk hz
                clear hz
                go_quiet (fail)
                go_wp2
                go_roundg (GK - 1)
                case measure => have := HK.out; have := HGK.out; omega
                case rel => exact ⟨k + 1, by have := HK.out; omega, by have := HK.out; omega, by first | rfl | go_num, by rw [← HD1.out, ← HV.out], ⟨below_then HY.out (by first | exact below_q _ | exact Below.refl _ _ | exact (Below.refl _ _).drew)⟩⟩
              · have hzb : (qk == 0) = false := by simp [hz]
                obtain ⟨e3, he3⟩ : ∃ e3, e3 = (qk == pk) := ⟨_, rfl⟩
                have HV : Aside0 (e3 = d1) := ⟨by rw [HDS.out, decide_eq_false hz, he3]; rfl⟩
                have he4 := he3.symm
                clear he3
                go_quiet (fail)
                go_wp2
                go_roundg (GK - 1)
                case measure => have := HK.out; have := HGK.out; omega
                case rel => exact ⟨k + 1, by have := HK.out; omega, by have := HK.out; omega, by first | rfl | go_num, by rw [← HD1.out, ← HV.out], ⟨below_then HY.out (by first | exact below_q _ | exact Below.refl _ _ | exact (Below.refl _ _).drew)⟩⟩
        · have hkn : k = m := by omega
          subst k
          obtain ⟨wd, rfl⟩ : ∃ wd : World, wd = wr := ⟨_, rfl⟩
          have HYD := HY
          have htk : ps.take m = ps := by rw [HN.out.2, List.take_length]
          rw [htk]
          obtain ⟨dd, hdd⟩ : ∃ dd, dd = declB ps ⟨qm, ⟨qk, qb, qn, qt, qA, qp, qc⟩⟩ := ⟨_, rfl⟩
          rw [← hdd]
          have HDD : Aside0 (dd = (decide (qm.data.toList ∈ ps.map PD.key) && (decide (qk = 0) || decide (qk = kindOf ps qm.data.toList)))) := ⟨by rw [hdd, declB_ok HND.out]; rfl⟩
          have HOK : Aside0 (okQ ps ((qs.take j).map QD.key) ⟨qm, ⟨qk, qb, qn, qt, qA, qp, qc⟩⟩ = (dd && (!decide (qm.data.toList ∈ (qs.take j).map QD.key) && rt))) := ⟨by
            rw [HDD.out, HRT.out]
            show (decide (qm.data.toList ∈ ps.map PD.key) && (!decide (qm.data.toList ∈ (qs.take j).map QD.key) && (rightB qk qb qn qt qp && (decide (qk = 0) || decide (qk = kindOf ps qm.data.toList))))) = _
            cases decide (qm.data.toList ∈ ps.map PD.key) <;> cases decide (qm.data.toList ∈ (qs.take j).map QD.key) <;> cases rightB qk qb qn qt qp <;> cases (decide (qk = 0) || decide (qk = kindOf ps qm.data.toList)) <;> rfl⟩
          have HBAD : Aside0 ((dd && (!decide (qm.data.toList ∈ (qs.take j).map QD.key) && rt)) = false → FB = false) := ⟨fun h => by rw [HFA.out, HOK.out, h]; rfl⟩
          clear HY htk hk hgk hk0 hkt hdd
          have HJ2 := HJI.out
          cases rt with
          | false =>
            have hfb := HBAD.out (by simp)
            subst hfb
            go_wp2
            go_ret
            exact ⟨rfl, below_then HXW.out HYD.out⟩
          | true =>
            cases dd with
            | false =>
              have hfb := HBAD.out (by simp)
              subst hfb
              go_wp2
              go_ret
              exact ⟨rfl, below_then HXW.out HYD.out⟩
            | true =>
              go_wp2
              clear htc
              go_loopg [9] (j + 1) (fun gg s9 wx => ∃ (u : Nat), u ≤ j ∧ j < gg + u ∧ s9 = .int .i64 u ∧ Aside0 (¬ qm.data.toList ∈ (qs.take u).map QD.key) ∧ Aside0 (Below wo.heap.size wo wx))
              case atStart => exact ⟨0, by omega, by omega, rfl, ⟨by simp⟩, HYD⟩
              case round =>
                obtain ⟨u, hu, hgu, rfl, HFU, HWU⟩ := hrel
                have hu0 : (0 : Int) ≤ (u : Int) := by omega
                by_cases hut : u < j
                · have huti : (u : Int) < (j : Int) := by omega
                  have hun : u < n := by omega
                  have huni : (u : Int) < (n : Int) := by omega
                  have hul : u < qs.length := by have := HN.out; omega
                  obtain ⟨pa2, e2, hy⟩ := (HQ.out.below (below_then HXW.out HWU.out)).row u hul
                  cases e2
                  obtain ⟨y, hyy⟩ : ∃ y, y = qs.getD u QD.zero := ⟨_, rfl⟩
                  have HY := Aside0.mk hyy
                  rw [← hyy] at hy
                  obtain ⟨yn, yv⟩ := y
                  obtain ⟨_, _, y0, _, _, _, _, _⟩ := hy
                  have hxc := HXC.out wr HWU.out
                  obtain ⟨_, _, c0, _, _, _, _, _⟩ := hxc
                  simp only at y0 c0
                  obtain ⟨e1, he1⟩ : ∃ e1, e1 = (yn.toList == qm.toList) := ⟨_, rfl⟩
                  have HE : Aside0 (e1 = decide ((qs.getD u QD.zero).key = qm.data.toList)) := ⟨by rw [he1, key_eq, ← HY.out]; rfl⟩
                  have he2 := he1.symm
                  have HU := Aside0.mk (And.intro hut (And.intro hgu hul))
                  obtain ⟨GU, hGU⟩ : ∃ GU, GU = gk := ⟨_, rfl⟩
                  have HGU := Aside0.mk hGU
                  rw [← hGU] at HU
                  clear hGU hyy hu hgu hul he1
                  go_upto_region 15 with (fail)
                  cases e1 with
                  | true =>
                    have hfb := HBAD.out (by
                      rw [decide_eq_true (take_mono QD.key qs _ (m := u + 1) HU.out.1 ((take_step QD.key QD.zero qs _ u HU.out.2.2).2 (.inr (of_decide_eq_true HE.out.symm))))]
                      rfl)
                    subst hfb
                    go_quiet (fail)
                    go_wp2
                    go_ret
                    exact ⟨rfl, below_then (below_then HXW.out HWU.out) (by first | exact below_q _ | exact Below.refl _ _ | exact (Below.refl _ _).drew)⟩
                  | false =>
                    have HF2 : Aside0 (¬ qm.data.toList ∈ (qs.take (u + 1)).map QD.key) := ⟨fun h => by
                      rcases (take_step QD.key QD.zero qs _ u HU.out.2.2).1 h with h | h
                      · exact HFU.out h
                      · exact of_decide_eq_false HE.out.symm h⟩
                    go_quiet (fail)
                    go_wp2
                    go_roundg (GU - 1)
                    case measure => have := HU.out; have := HGU.out; omega
                    case rel => exact ⟨u + 1, by have := HU.out; omega, by have := HU.out; omega, by first | rfl | go_num, HF2, ⟨below_then HWU.out (by first | exact below_q _ | exact Below.refl _ _ | exact (Below.refl _ _).drew)⟩⟩
                · have hun : u = j := by omega
                  subst u
                  have HF3 : Aside0 (fitsB ps ((qs.take (j + 1)).map QD.key) (qs.drop (j + 1)) = FB) := ⟨by
                    have h := HFA.out
                    rw [HOK.out, decide_eq_false HFU.out] at h
                    simpa using h.symm⟩
                  go_wp2
                  go_roundg (GJ - 1)
                  case measure => have := HJ.out; have := HGJ.out; omega
                  case rel => exact ⟨j + 1, by have := HJ.out; omega, by have := HJ.out; omega, by first | rfl | go_num, HF3, ⟨below_then HX.out HWU.out⟩⟩
    · have hjn : j = n := by omega
      subst j
      have hfb : FB = true := by
        have h := HF.out
        rw [HN.out.1, List.drop_length] at h
        rw [← h]
        rfl
      subst hfb
      go_wp2
      go_ret
      exact ⟨rfl, below_then HB1.out HX.out⟩
end Go.Proofs.YtffifhinhemkdaaDoor
