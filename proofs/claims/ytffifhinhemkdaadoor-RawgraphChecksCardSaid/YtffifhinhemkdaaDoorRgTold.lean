/- rawgraph.told: properties that are not null, as a type declares them. -/
import Derived.Test.YtffifhinhemkdaaDoorRgCln
import Derived.Test.YtffifhinhemkdaaDoorShelfQ
import Derived.Lib.SliceRun
set_option linter.unusedVariables false
set_option linter.unusedSimpArgs false
namespace Go.Proofs.YtffifhinhemkdaaDoor
open Go.RowKit Go.Shelf Go.Lib

instance : Inhabited TD := ⟨TD.zero⟩
def keepQ (d : PD) (q : QD) : Bool := decide (q.key = d.key) && !decide (q.v.k = 0)
def toldL (ps : List PD) (qs : List QD) : List QD := ps.flatMap fun d => qs.filter (keepQ d)
theorem toldL_snoc (ps : List PD) (d : PD) (qs : List QD) : toldL (ps ++ [d]) qs = toldL ps qs ++ qs.filter (keepQ d) := by
  simp [toldL]
theorem toldL_mem {ps : List PD} {qs : List QD} {q : QD} (h : q ∈ toldL ps qs) : q ∈ qs := by
  obtain ⟨d, _, h2⟩ := List.mem_flatMap.1 h
  exact (List.mem_filter.1 h2).1
theorem toldL_take_le (ps : List PD) (qs : List QD) (i k : Nat) (hi : i < ps.length) : (toldL (ps.take i) qs ++ (qs.take k).filter (keepQ (ps.getD i PD.zero))).length ≤ (toldL ps qs).length := by
  have e : ps = ps.take i ++ (ps.getD i PD.zero :: ps.drop (i + 1)) := by
    rw [← drop_cons ps PD.zero i hi, List.take_append_drop]
  have h1 : (toldL ps qs).length = (toldL (ps.take i) qs).length + ((qs.filter (keepQ (ps.getD i PD.zero))).length + (toldL (ps.drop (i + 1)) qs).length) := by
    conv => lhs; rw [e]
    simp only [toldL, List.flatMap_append, List.flatMap_cons, List.length_append]
  have h2 : ((qs.take k).filter (keepQ (ps.getD i PD.zero))).length ≤ (qs.filter (keepQ (ps.getD i PD.zero))).length := by
    conv => rhs; rw [← List.take_append_drop k qs]
    rw [List.filter_append, List.length_append]
    omega
  rw [List.length_append]
  omega
/-- The first type with a key has a place. -/
theorem typeOf_at (ts : List TD) (t : List UInt8) (h : t ∈ ts.map TD.key) : ∃ i, i < ts.length ∧ ts.getD i TD.zero = typeOf ts t ∧ (typeOf ts t).key = t ∧ ∀ j, j < i → ¬ (ts.getD j TD.zero).key = t := by
  induction ts with
  | nil => cases h
  | cons x r ih =>
    by_cases hx : x.key = t
    · refine ⟨0, by simp, ?_, ?_, fun j hj => by omega⟩
      · simp [typeOf, hx]
      · simp [typeOf, hx]
    · have h2 : t ∈ r.map TD.key := by
        rcases List.mem_map.1 h with ⟨y, hy, e⟩
        rcases List.mem_cons.1 hy with rfl | hy
        · exact absurd e hx
        · exact List.mem_map.2 ⟨y, hy, e⟩
      obtain ⟨i, h3, h4, h5, h6⟩ := ih h2
      have e : typeOf (x :: r) t = typeOf r t := by
        unfold typeOf
        rw [List.find?_cons, decide_eq_false hx]
      refine ⟨i + 1, by simp; omega, by rw [e]; exact h4, by rw [e]; exact h5, fun j hj => ?_⟩
      match j with
      | 0 => exact hx
      | j + 1 => exact h6 j (by omega)
theorem key_eq (a b : ByteArray) : (a.toList == b.toList) = decide (a.data.toList = b.data.toList) := by
  rw [Lib.toList_data, Lib.toList_data]
  by_cases h : a.data.toList = b.data.toList
  · rw [h, decide_eq_true rfl]
    exact beq_self_eq_true _
  · rw [decide_eq_false h]
    exact beq_eq_false_iff_ne.2 h
/-- The closure: is it the label? -/
theorem told_pred (lb : ByteArray) (B : Nat) (w : World) (hB : B < w.heap.size) (hcell : w.cell? ⟨B, 0, none⟩ = some (.string lb)) :
    PredBelow Tryd.prog 42 #[.pointer (some ⟨B, 0, none⟩)] (fun x : TD => .agg (cellsTD x).toArray) (fun x => x.s.toList == lb.toList) w := fun W x hb => by
  have hc : W.cell? ⟨B, 0, none⟩ = some (.string lb) := (hb.cell (p := ⟨B, 0, none⟩) hB).trans hcell
  have hBW : B < W.heap.size := Nat.lt_of_lt_of_le hB hb.size
  have hne : B ≠ W.heap.size := by omega
  show Calls Tryd.prog 42 #[.agg #[.string x.s, .slice x.A x.ps.length x.c], .pointer (some ⟨B, 0, none⟩)] W _
  go_enter Tryd.func42, Tryd.ntmps42
  go_wp2
  go_ret
  exact ⟨rfl, hb.alloc hb.size _⟩
theorem index_type (ts : List TD) (ad : Addr) (c : Nat) (lb : ByteArray) (B i : Nat) (w : World) (hr : ReadsT w (some ad) ts) (hi : i < ts.length) (hB : B < w.heap.size) (hcell : w.cell? ⟨B, 0, none⟩ = some (.string lb))
    (hk : (ts.getD i TD.zero).key = lb.data.toList) (hf : ∀ j, j < i → ¬ (ts.getD j TD.zero).key = lb.data.toList) :
    Calls Tryd.prog 41 #[.slice (some ad) ts.length c, .func (.func 42) #[] #[.pointer (some ⟨B, 0, none⟩)]] w fun e w' => e = .returned (.int .i64 (i : Int)) ∧ Below w.heap.size w w' := by
  have eg : ∀ args w, (callFunc 42 args).run Tryd.prog w = .ok (.enter 42 args) w := enters_of Tryd.func42 (by kernel_rfl) rfl
  obtain ⟨a0, e0, hh0⟩ := hr.row 0 (by omega)
  cases e0
  have hs := spot_of_add _ _ hh0.spot
  have hlt := hh0.lt
  rw [block_add] at hlt
  have ead : ad = ⟨ad.block, ad.off, none⟩ := by
    obtain ⟨b, o, s⟩ := ad
    simp only at hs
    rw [hs]
  have hgd : ∀ j, (ts[j]! : TD) = ts.getD j TD.zero := fun j => by
    rw [List.getElem!_eq_getElem?_getD, List.getD_eq_getElem?_getD]
    rfl
  have hcon := AnyQ.slices_IndexFunc Tryd.idxT 2 Tryd.isAgg41 Tryd.sizeOf41 cellsTD cellsTD_len (fun x => x.s.toList == lb.toList) 42 #[.pointer (some ⟨B, 0, none⟩)] eg ad.block ad.off ts.length c ts w
    (told_pred lb B w hB hcell) (Nat.le_refl _) hr.len hlt (fun j hj k v hv => by
      rw [hgd] at hv
      have hk2 : k < 2 := by
        have := (List.getElem?_eq_some_iff.1 hv).1
        rw [cellsTD_len] at this
        exact this
      have h := newsT hr (j * 2 + k) v (by rw [flat_at cellsTD 2 TD.zero cellsTD_len ts j k hj hk2]; exact hv)
      rw [add_cell _ _ hs, ← Nat.add_assoc] at h
      exact h)
  change Calls Tryd.prog 41 _ _ _ at hcon
  rw [Lib.idxBy_hit (fun _ y : TD => y.s.toList == lb.toList) ts ts.length i default hi (Nat.le_refl _) (by rw [hgd, key_eq]; exact decide_eq_true hk) (fun j hj => by rw [hgd, key_eq]; exact decide_eq_false (hf j hj))] at hcon
  rw [ead]
  exact hcon
theorem own_ne_box {W : World} {B n bd : Nat} {v : Value} {xs : List Value} {cs : Array Value} (h : W.ownsRow B 96 6 v n xs) (hd : DBox W bd cs) : v.ownBlock ≠ some bd := by
  intro e
  rcases h.2 with ⟨e1, _⟩ | ⟨g, cap, cur, e1, _, hh, _⟩
  · rw [e1] at e
    cases e
  · rw [e1] at e
    have e2 : g = bd := Option.some.inj e
    rw [e2, show W.heap[bd]? = _ from hd] at hh
    cases hh
set_option maxRecDepth 100000 in
set_option maxHeartbeats 12800000 in
theorem told_any (ts : List TD) (TA : Option Addr) (tc : Nat) (lb : ByteArray) (qs : List QD) (QA : Option Addr) (qc : Nat) (w : World) (hr : ReadsT w TA ts) (hq : ReadsQ w QA qs) (hin : lb.data.toList ∈ ts.map TD.key) (hb : (toldL (typeOf ts lb.data.toList).ps qs).length < 1000000000000) :
    Calls Tryd.prog 24 #[.slice TA ts.length tc, .string lb, .slice QA qs.length qc] w fun e w' => ∃ A2 c2, e = .returned (.slice A2 (toldL (typeOf ts lb.data.toList).ps qs).length c2) ∧ w'.ownsRow w.heap.size 96 6 (.slice A2 (toldL (typeOf ts lb.data.toList).ps qs).length c2) (toldL (typeOf ts lb.data.toList).ps qs).length ((toldL (typeOf ts lb.data.toList).ps qs).flatMap cellsQD) ∧ Below w.heap.size w w' := by
  obtain ⟨i, hi, hti, hkt, hf⟩ := typeOf_at ts lb.data.toList hin
  obtain ⟨ad, hTA, hh⟩ := hr.row i hi
  subst hTA
  have hti2 := hti
  rw [← hti] at hkt
  rw [hti] at hh
  have hpr := hr.props _ (getD_in ts TD.zero i hi)
  rw [hti] at hpr
  have HIX : Aside0 (∀ W, Below w.heap.size w W → ∀ B, B < W.heap.size → W.cell? ⟨B, 0, none⟩ = some (.string lb) → Calls Tryd.prog 41 #[.slice (some ad) ts.length tc, .func (.func 42) #[] #[.pointer (some ⟨B, 0, none⟩)]] W fun e w' => e = .returned (.int .i64 (i : Int)) ∧ Below W.heap.size W w') := ⟨fun W h B hB hc => index_type ts ad tc lb B i W (hr.below h) hi hB hc hkt hf⟩
  obtain ⟨t, ht⟩ : ∃ t, t = typeOf ts lb.data.toList := ⟨_, rfl⟩
  rw [← ht] at hh hpr hb ⊢
  obtain ⟨ts_, tA, ps, tcc⟩ := t
  simp only at hpr hb ⊢
  obtain ⟨hlt, hsp, r0, r1⟩ := hh
  simp only at r0 r1
  obtain ⟨n, hn⟩ : ∃ n, n = ts.length := ⟨_, rfl⟩
  obtain ⟨q, hq9⟩ : ∃ q, q = ps.length := ⟨_, rfl⟩
  obtain ⟨m, hm⟩ : ∃ m, m = qs.length := ⟨_, rfl⟩
  rw [← hq9] at r1
  rw [← hm]
  rw [← hn] at HIX ⊢
  have hin2 : i < n := by omega
  have hii : (i : Int) < (n : Int) := by omega
  have hi0 : (0 : Int) ≤ (i : Int) := by omega
  have hm9 : (m : Int) ≤ 9223372036854775807 := by have := hq.len; omega
  have hq99 : (q : Int) ≤ 9223372036854775807 := by have := hpr.len; omega
  have hnn9 : (n : Int) ≤ 9223372036854775807 := by have := hr.len; omega
  have HN := Aside0.mk (And.intro hq9 hm)
  have HPR := Aside0.mk hpr
  have HQR := Aside0.mk hq
  have HB := Aside0.mk hb
  have HROW : Aside0 (∀ X : World, Below w.heap.size w X → X.cell? (ad.add (i * 2)) = some (.string ts_) ∧ X.cell? ⟨(ad.add (i * 2)).block, (ad.add (i * 2)).off + 1, none⟩ = some (.slice tA q tcc)) := ⟨fun X h => ⟨(h.cell hlt).trans r0, (h.cell (p := ⟨(ad.add (i * 2)).block, (ad.add (i * 2)).off + 1, none⟩) hlt).trans r1⟩⟩
  clear hr hq hin hb hi hti hkt hf hti2 hpr ht hlt hsp r0 r1 hn hq9 hm
  go_enter Tryd.func24, Tryd.ntmps24
  go_upto_region 1 with (fail)
  obtain ⟨W1, hW1⟩ : ∃ W1, W1 = w.alloc (.cells #[.string lb] 9) := ⟨_, rfl⟩
  obtain ⟨bl, hbl⟩ : ∃ bl, bl = w.heap.size := ⟨_, rfl⟩
  have HB1 : Aside0 (Below w.heap.size w W1) := ⟨by rw [hW1]; exact below_more (Below.refl _ _) _⟩
  have hbl1 : bl < W1.heap.size := by rw [hbl, hW1]; simp
  have hcl1 : W1.cell? ⟨bl, 0, none⟩ = some (.string lb) := by
    rw [hbl, hW1]
    simp [go_sem]
  rw [← hW1, ← hbl]
  have hix := HIX.out W1 HB1.out bl hbl1 hcl1
  clear hW1 hbl hbl1 hcl1
  go_upto_region 2 with (go_at_call 41; go_loud (refine hix.mono ?_); (first | (rintro e W2 ⟨rfl, hb2⟩) | (intro e W2 he hb2; subst he)); have HB2 := Aside0.mk (below_then HB1.out hb2); obtain ⟨hr20, hr21⟩ := HROW.out W2 HB2.out)
  obtain ⟨W3, hW3⟩ : ∃ W3, W3 = W2.alloc (.cells #[.string ts_, .slice tA q tcc] 41) := ⟨_, rfl⟩
  obtain ⟨bt, hbt⟩ : ∃ bt, bt = W2.heap.size := ⟨_, rfl⟩
  have HT3 : Aside0 (TBox W3 bt #[.string ts_, .slice tA q tcc]) := ⟨by rw [hW3, hbt]; exact heap_alloc_new W2 _⟩
  have HB3 : Aside0 (Below w.heap.size w W3) := ⟨by rw [hW3]; exact below_more HB2.out _⟩
  rw [← hW3, ← hbt]
  have ht3 := HT3.out.cells
  clear hW3 hbt hr20 hr21 hb2 hix HB1 HB2
  go_wp2
  clear ht3
  go_loopg [8, 22] (q + 1) (fun gg s8 s22 wx => ∃ (k : Nat), k ≤ q ∧ q < gg + k ∧ s22 = .int .i64 k ∧ ∃ A2 c2, s8 = .slice A2 (toldL (ps.take k) qs).length c2 ∧ Aside0 (wx.ownsRow w.heap.size 96 6 (.slice A2 (toldL (ps.take k) qs).length c2) (toldL (ps.take k) qs).length ((toldL (ps.take k) qs).flatMap cellsQD)) ∧ Aside0 (Below w.heap.size w wx))
  case atStart => exact ⟨0, by omega, by omega, rfl, none, 0, rfl, ⟨World.ownsRow_nil _ _ _ _⟩, HB3⟩
  case round =>
    obtain ⟨k, hk, hg, rfl, A2, c2, rfl, HO, HBX⟩ := hrel
    have hk0 : (0 : Int) ≤ (k : Int) := by omega
    by_cases hkt : k < q
    · have hkti : (k : Int) < (q : Int) := by omega
      have hkl : k < ps.length := by have := HN.out; omega
      obtain ⟨pd, hpd, hh⟩ := (HPR.out.below HBX.out).row k hkl
      subst hpd
      have HTK : Aside0 (toldL (ps.take (k + 1)) qs = toldL (ps.take k) qs ++ qs.filter (keepQ (ps.getD k PD.zero))) := ⟨by rw [take_getD ps PD.zero k hkl, toldL_snoc]⟩
      have HTL : Aside0 (∀ j, (toldL (ps.take k) qs ++ (qs.take j).filter (keepQ (ps.getD k PD.zero))).length < 1000000000000) := ⟨fun j => Nat.lt_of_le_of_lt (toldL_take_le ps qs k j hkl) HB.out⟩
      obtain ⟨d, hd⟩ : ∃ d, d = ps.getD k PD.zero := ⟨_, rfl⟩
      rw [← hd] at hh HTK HTL
      obtain ⟨pn, pk⟩ := d
      obtain ⟨hlt, hsp, p0, p1⟩ := hh
      simp only at p0 p1
      have HJ := Aside0.mk (And.intro hk hg)
      obtain ⟨GJ, hGJ⟩ : ∃ GJ, GJ = gk := ⟨_, rfl⟩
      have HGJ := Aside0.mk hGJ
      rw [← hGJ] at HJ
      obtain ⟨lk, hlk⟩ : ∃ lk, lk = (toldL (ps.take k) qs).length := ⟨_, rfl⟩
      obtain ⟨tk, htk⟩ : ∃ tk, tk = toldL (ps.take k) qs := ⟨_, rfl⟩
      rw [← hlk] at HO ⊢
      rw [← htk] at HO HTK HTL
      have HLK : Aside0 (lk = tk.length) := ⟨by rw [hlk, htk]⟩
      clear hlk htk hGJ hd hkl hk hg
      go_upto_region 6 with (fail)
      obtain ⟨W5, hW5⟩ : ∃ W5, W5 = wr.alloc (.cells #[.string pn, .int .i64 pk] 82) := ⟨_, rfl⟩
      obtain ⟨bd, hbd⟩ : ∃ bd, bd = wr.heap.size := ⟨_, rfl⟩
      have HD5 : Aside0 (DBox W5 bd #[.string pn, .int .i64 pk]) := ⟨by rw [hW5, hbd]; exact heap_alloc_new wr _⟩
      have HB5 : Aside0 (Below w.heap.size w W5) := ⟨by rw [hW5]; exact below_more HBX.out _⟩
      have HO5 : Aside0 (W5.ownsRow w.heap.size 96 6 (.slice A2 lk c2) lk (tk.flatMap cellsQD)) := ⟨by rw [hW5]; exact HO.out.alloc _⟩
      rw [← hW5, ← hbd]
      clear hW5 hbd hlt hsp p0 p1 HO HBX
      go_wp2
      go_loopg [8, 28] (m + 1) (fun gg s8 s28 wx => ∃ (j : Nat), j ≤ m ∧ m < gg + j ∧ s28 = .int .i64 j ∧ ∃ A3 c3, s8 = .slice A3 (tk ++ (qs.take j).filter (keepQ ⟨pn, pk⟩)).length c3 ∧ Aside0 (wx.ownsRow w.heap.size 96 6 (.slice A3 (tk ++ (qs.take j).filter (keepQ ⟨pn, pk⟩)).length c3) (tk ++ (qs.take j).filter (keepQ ⟨pn, pk⟩)).length ((tk ++ (qs.take j).filter (keepQ ⟨pn, pk⟩)).flatMap cellsQD)) ∧ Aside0 (DBox wx bd #[.string pn, .int .i64 pk]) ∧ Aside0 (Below w.heap.size w wx))
      case atStart => exact ⟨0, by omega, by omega, rfl, A2, c2, by rw [HLK.out]; simp, ⟨by have h := HO5.out; rw [HLK.out] at h; simpa using h⟩, HD5, HB5⟩
      case round =>
        obtain ⟨j, hj, hg, rfl, A3, c3, rfl, HO, HD, HBX⟩ := hrel
        have hj0 : (0 : Int) ≤ (j : Int) := by omega
        by_cases hjt : j < m
        · have hjti : (j : Int) < (m : Int) := by omega
          have hjl : j < qs.length := by have := HN.out; omega
          obtain ⟨qd, hqd, hh⟩ := (HQR.out.below HBX.out).row j hjl
          subst hqd
          have htj := take_getD qs QD.zero j hjl
          have HTJ := Aside0.mk (HTL.out j)
          obtain ⟨x, hx⟩ : ∃ x, x = qs.getD j QD.zero := ⟨_, rfl⟩
          rw [← hx] at hh htj
          have HST : Aside0 (tk ++ (qs.take (j + 1)).filter (keepQ ⟨pn, pk⟩) = if keepQ ⟨pn, pk⟩ x = true then (tk ++ (qs.take j).filter (keepQ ⟨pn, pk⟩)) ++ [x] else tk ++ (qs.take j).filter (keepQ ⟨pn, pk⟩)) := ⟨by
            rw [htj, List.filter_append]
            cases h : keepQ ⟨pn, pk⟩ x with
            | true => simp [h]
            | false => simp [h]⟩
          obtain ⟨sj, hsj⟩ : ∃ sj, sj = tk ++ (qs.take j).filter (keepQ ⟨pn, pk⟩) := ⟨_, rfl⟩
          rw [← hsj] at HO HST HTJ ⊢
          obtain ⟨lj, hlj⟩ : ∃ lj, lj = sj.length := ⟨_, rfl⟩
          rw [← hlj] at HO HTJ ⊢
          have HLJ := Aside0.mk hlj
          obtain ⟨qm, ⟨qk, qb, qn, qt, qA, qp, qcc⟩⟩ := x
          obtain ⟨hlt, hsp, c0, c1, c2, c3_, c4, c5⟩ := hh
          simp only at c0 c1 c2 c3_ c4 c5
          have HJ2 := Aside0.mk (And.intro hj hg)
          obtain ⟨GI, hGI⟩ : ∃ GI, GI = gk := ⟨_, rfl⟩
          have HGI := Aside0.mk hGI
          rw [← hGI] at HJ2
          clear hGI hx htj hsj hlj hjl hj hg
          go_upto_region 9 with (fail)
          obtain ⟨W7, hW7⟩ : ∃ W7, W7 = wr.alloc (.cells #[.string qm, .int .i64 qk, .bool qb, .int .i64 qn, .string qt, .slice qA qp.length qcc] 96) := ⟨_, rfl⟩
          obtain ⟨bp, hbp⟩ : ∃ bp, bp = wr.heap.size := ⟨_, rfl⟩
          have HQ7 : Aside0 (QBox W7 bp #[.string qm, .int .i64 qk, .bool qb, .int .i64 qn, .string qt, .slice qA qp.length qcc]) := ⟨by rw [hW7, hbp]; exact heap_alloc_new wr _⟩
          have HD7 : Aside0 (DBox W7 bd #[.string pn, .int .i64 pk]) := ⟨by rw [hW7]; exact (heap_alloc_old wr _ (Array.getElem?_eq_some_iff.1 HD.out).1).trans HD.out⟩
          have HB7 : Aside0 (Below w.heap.size w W7) := ⟨by rw [hW7]; exact below_more HBX.out _⟩
          have HO7 : Aside0 (W7.ownsRow w.heap.size 96 6 (.slice A3 lj c3) lj (sj.flatMap cellsQD)) := ⟨by rw [hW7]; exact HO.out.alloc _⟩
          rw [← hW7, ← hbp]
          clear hW7 hbp hlt hsp c0 c1 c2 c3_ c4 c5 HO HD HBX
          have hq7 := HQ7.out.cells
          have hd7 := HD7.out.cells
          obtain ⟨e1, he1⟩ : ∃ e1, e1 = (qm.toList == pn.toList) := ⟨_, rfl⟩
          have HKE : Aside0 (keepQ ⟨pn, pk⟩ ⟨qm, ⟨qk, qb, qn, qt, qA, qp, qcc⟩⟩ = (e1 && !decide (qk = 0))) := ⟨by rw [he1, key_eq]; rfl⟩
          have he2 := he1.symm
          clear he1
          cases e1 with
          | false =>
            have HOK : Aside0 (tk ++ (qs.take (j + 1)).filter (keepQ ⟨pn, pk⟩) = sj) := ⟨by rw [HST.out, HKE.out]; rfl⟩
            go_wp2
            go_roundg (GI - 1)
            case measure => have := HJ2.out; have := HGI.out; omega
            case rel => exact ⟨j + 1, by omega, by have := HJ2.out; omega, by first | rfl | go_num, A3, c3, by rw [HOK.out, ← HLJ.out], by rw [HOK.out, ← HLJ.out]; exact HO7, HD7, HB7⟩
          | true =>
            by_cases hz : qk = 0
            · subst hz
              have HOK : Aside0 (tk ++ (qs.take (j + 1)).filter (keepQ ⟨pn, pk⟩) = sj) := ⟨by rw [HST.out, HKE.out]; rfl⟩
              go_wp2
              go_roundg (GI - 1)
              case measure => have := HJ2.out; have := HGI.out; omega
              case rel => exact ⟨j + 1, by omega, by have := HJ2.out; omega, by first | rfl | go_num, A3, c3, by rw [HOK.out, ← HLJ.out], by rw [HOK.out, ← HLJ.out]; exact HO7, HD7, HB7⟩
            · have hzb : (qk == 0) = false := by simp [hz]
              have HOK : Aside0 (tk ++ (qs.take (j + 1)).filter (keepQ ⟨pn, pk⟩) = sj ++ [⟨qm, ⟨qk, qb, qn, qt, qA, qp, qcc⟩⟩]) := ⟨by rw [HST.out, HKE.out, decide_eq_false hz]; rfl⟩
              have hba := below_more (Below.refl W7.heap.size W7) (.cells #[.string qm, .int .i64 qk, .bool qb, .int .i64 qn, .string qt, .slice qA qp.length qcc] 96)
              have HO8 := Aside0.mk (HO7.out.alloc (.cells #[.string qm, .int .i64 qk, .bool qb, .int .i64 qn, .string qt, .slice qA qp.length qcc] 96))
              have HBA := Aside0.mk (And.intro hba (below_then HB7.out hba))
              clear hba
              go_upto_region 11 with (at_builtin; go_loud (refine app_one_QL rfl (.tmp 43) (.tmp 45) rfl w.heap.size _ lj (sj.flatMap cellsQD) rfl HO8.out W7.heap.size ⟨qm, ⟨qk, qb, qn, qt, qA, qp, qcc⟩⟩ rfl (heap_alloc_new W7 _) (by have := HTJ.out; omega) HBA.out.2.size ?_); intro v9 Z hT9 hb9 hg9; obtain ⟨A9, c9, hv9⟩ := own_shape hT9; subst hv9)
              have HO9 : Aside0 (Z.ownsRow w.heap.size 96 6 (.slice A9 (tk ++ (qs.take (j + 1)).filter (keepQ ⟨pn, pk⟩)).length c9) (tk ++ (qs.take (j + 1)).filter (keepQ ⟨pn, pk⟩)).length ((tk ++ (qs.take (j + 1)).filter (keepQ ⟨pn, pk⟩)).flatMap cellsQD)) := ⟨by
                rw [HOK.out, List.length_append, ← HLJ.out]
                simpa using hT9⟩
              have HD9 : Aside0 (DBox Z bd #[.string pn, .int .i64 pk]) := ⟨(hg9.block bd (Nat.lt_of_lt_of_le (Array.getElem?_eq_some_iff.1 HD7.out).1 HBA.out.1.size) (fun e => own_ne_box HO7.out HD7.out e.symm)).trans ((HBA.out.1.block bd (Array.getElem?_eq_some_iff.1 HD7.out).1).trans HD7.out)⟩
              have HB9 : Aside0 (Below w.heap.size w Z) := ⟨HBA.out.2.trans hb9⟩
              have HL9 : Aside0 ((tk ++ (qs.take (j + 1)).filter (keepQ ⟨pn, pk⟩)).length = lj + 1) := ⟨by rw [HOK.out, List.length_append, ← HLJ.out]; rfl⟩
              clear hT9 hb9 hg9 HBA HO8
              go_wp2
              go_roundg (GI - 1)
              case measure => have := HJ2.out; have := HGI.out; omega
              case rel => exact ⟨j + 1, by omega, by have := HJ2.out; omega, by first | rfl | go_num, A9, c9, by rw [HL9.out], HO9, HD9, HB9⟩
        · obtain rfl : j = m := by omega
          have HOK : Aside0 (tk ++ (qs.take j).filter (keepQ ⟨pn, pk⟩) = toldL (ps.take (k + 1)) qs) := ⟨by rw [HTK.out, HN.out.2, List.take_length]⟩
          rw [HOK.out] at HO ⊢
          go_wp2
          go_roundg (GJ - 1)
          case measure => have := HJ.out; have := HGJ.out; omega
          case rel => exact ⟨k + 1, by omega, by have := HJ.out; omega, by first | rfl | go_num, A3, c3, rfl, HO, HBX⟩
    · obtain rfl : k = q := by omega
      have hps : ps.take k = ps := by rw [HN.out.1, List.take_length]
      rw [hps] at HO ⊢
      have HPS := Aside0.mk hps
      clear hps
      go_wp2
      go_ret
      exact ⟨A2, c2, rfl, HO.out, HBX.out⟩

end Go.Proofs.YtffifhinhemkdaaDoor
