/- The document's expr, whole; done, PrintExpr. -/
import Derived.Test.YtkchpgjjkckfbaaDoorPrR6
import Derived.Test.YtkchpgjjkckfbaaDoorPrY
set_option linter.unusedVariables false
set_option linter.unusedSimpArgs false
namespace Go.Proofs.YtkchpgjjkckfbaaDoor
open Go.RowKit

theorem okF_at {op : Int} {A : Option Addr} {ks : List XD} {c : Nat} {nm pr : ByteArray} {v : VX} {s : Shp} (d : Nat) (hq : shpD op = some s) (hl : ks.length = s.asks.length) (hp : plainB op nm pr v = true) : okF op A ks c nm pr v (okK ks) d = (decide (deepD op d ≤ 50) && okK ks s.asks (deepD op d)) := by
  unfold okF
  rw [hq]
  simp [hl, hp]
theorem textF_at {op : Int} {A : Option Addr} {ks : List XD} {c : Nat} {nm pr : ByteArray} {v : VX} {s : Shp} (hq : shpD op = some s) : textF op A ks c nm pr v (textK ks) = s.ahead ++ (coreX op nm pr v ++ (textK ks s.asks s.sign true ++ s.behind)) := by
  unfold textF
  rw [hq]
theorem okF_not {op : Int} {A : Option Addr} {ks : List XD} {c : Nat} {nm pr : ByteArray} {v : VX} {d : Nat} (h : fldB op ks.length nm pr v = false) : okF op A ks c nm pr v (okK ks) d = false := by
  unfold fldB at h
  unfold okF
  cases hq : shpD op with
  | none => rfl
  | some s =>
    rw [hq] at h
    dsimp only at h ⊢
    cases hl : decide (ks.length = s.asks.length) with
    | false => rfl
    | true =>
      rw [hl, Bool.true_and] at h
      rw [Bool.true_and]
      have : plainB op nm pr v = false := by
        unfold plainB noneB
        by_cases h1 : op = 1
        · rw [if_pos h1] at h ⊢
          simpa only [Bool.and_assoc] using h
        rw [if_neg h1] at h ⊢
        by_cases h2 : op = 2
        · rw [if_pos h2] at h ⊢
          revert h
          cases rightB v.k v.b v.n v.s v.p <;> cases decide (v.k = 0) <;> cases decide (pr.size = 0) <;> simp
        rw [if_neg h2] at h ⊢
        by_cases h3 : op = 3
        · rw [if_pos h3] at h ⊢
          rw [h]
          rfl
        rw [if_neg h3] at h ⊢
        simpa only [Bool.and_assoc] using h
      rw [this]
      rfl
theorem fld_some {op : Int} {n : Nat} {nm pr : ByteArray} {v : VX} (h : fldB op n nm pr v = true) : ∃ s, shpD op = some s ∧ n = s.asks.length ∧ (op ≠ 2 → op ≠ 3 → plainB op nm pr v = true) ∧ (op = 2 → plainB op nm pr v = namedB nm) ∧ (op = 3 → plainB op nm pr v = (namedB nm && namedB pr)) := by
  unfold fldB at h
  cases hq : shpD op with
  | none => rw [hq] at h; cases h
  | some s =>
    rw [hq] at h
    dsimp only at h
    rw [Bool.and_eq_true, decide_eq_true_iff] at h
    refine ⟨s, rfl, h.1, fun n2 n3 => ?_, fun e => ?_, fun e => ?_⟩
    · have h2 := h.2
      unfold plainB noneB
      by_cases h1 : op = 1
      · rw [if_pos h1] at h2 ⊢
        simpa only [Bool.and_assoc] using h2
      · rw [if_neg h1, if_neg n2, if_neg n3] at h2 ⊢
        simpa only [Bool.and_assoc] using h2
    · subst e
      have h2 := h.2
      rw [if_neg (by decide), if_pos rfl, Bool.and_eq_true, Bool.and_eq_true] at h2
      unfold plainB noneB
      rw [if_neg (by decide), if_pos rfl, h2.1, h2.2.1, h2.2.2]
      simp
    · subst e
      have h2 := h.2
      rw [if_neg (by decide), if_neg (by decide), if_pos rfl, Bool.and_eq_true] at h2
      unfold plainB noneB
      rw [if_neg (by decide), if_neg (by decide), if_pos rfl, h2.1, h2.2]
      simp
theorem len_1 {l : List XD} (h : l.length = 1) : ∃ a, l = [a] := List.length_eq_one_iff.1 h
theorem len_2 {l : List XD} (h : l.length = 2) : ∃ a b, l = [a, b] := by
  match l, h with
  | [a, b], _ => exact ⟨a, b, rfl⟩
theorem lev_ge (k : Int) : 1 ≤ levR k := by
  unfold levR
  split
  · decide
  · rename_i h
    cases hq : shpD k with
    | none => exact absurd hq h
    | some s =>
      have := shp_range.2 s hq
      have hh : k = 1 ∨ k = 2 ∨ k = 3 ∨ k = 4 ∨ k = 5 ∨ k = 6 ∨ k = 7 ∨ k = 8 ∨ k = 9 ∨ k = 10 ∨ k = 11 ∨ k = 12 ∨ k = 13 ∨ k = 14 ∨ k = 15 ∨ k = 16 ∨ k = 17 ∨ k = 18 ∨ k = 19 ∨ k = 20 ∨ k = 21 ∨ k = 22 ∨ k = 23 ∨ k = 24 ∨ k = 25 ∨ k = 26 := by omega
      rcases hh with rfl | rfl | rfl | rfl | rfl | rfl | rfl | rfl | rfl | rfl | rfl | rfl | rfl | rfl | rfl | rfl | rfl | rfl | rfl | rfl | rfl | rfl | rfl | rfl | rfl | rfl <;> decide
theorem not_lt50 (d : Nat) : decide (50 < d + 1) = !decide (d + 1 ≤ 50) := by
  by_cases h : d + 1 ≤ 50
  · rw [decide_eq_true h, decide_eq_false (by omega)]; rfl
  · rw [decide_eq_false h, decide_eq_true (by omega)]; rfl
set_option maxRecDepth 100000 in
theorem rexpr_any (w0 : World) (b : Nat) (ht : Tabs w0) (hT : Lib.Utf8Tabs 1 2 w0) : ∀ {x : XD}, ReadsXD w0 x → RefOk w0 b x := by
  intro x hx
  induction hx with
  | @mk op A ks c nm pr v hop hlen hnm hpr hs hkk hn hp hrow hkids ih =>
    have hx : ReadsXD w0 (.mk op A ks c nm pr v) := .mk hop hlen hnm hpr hs hkk hn hp hrow hkids
    intro d T fl w hr hd50
    dsimp only [XD.op, XD.A, XD.ks, XD.c, XD.nm, XD.pr, XD.v]
    have hfl : ∀ W, Below w.heap.size w W → Calls Tryd.prog 41 #[.agg #[.int .i64 op, .slice A ks.length c, .string nm, .string pr, .int .i64 v.k, .bool v.b, .int .i64 v.n, .string v.s, .slice v.A v.p.length v.c]] W fun e w' => e = .returned (.bool (fldB op ks.length nm pr v)) ∧ Below W.heap.size W w' :=
      fun W hW => rfields_any op A ks.length c nm pr v W (hp.below (below_then hr.base hW)) hs (Utf8Tabs_below hT (below_then hr.base hW))
    rw [textX_mk, okX_mk]
    cases fl with
    | true => exact rx_true w0 b T A c nm pr v d w _ op ks.length _ hr hfl
    | false =>
      rw [Bool.false_or]
      have hd := hd50 rfl
      cases hfb : fldB op ks.length nm pr v with
      | false =>
        rw [hfb] at hfl
        rw [okF_not hfb]
        exact rx_bare w0 b T A c nm pr v d w _ op ks.length hr hfl
      | true =>
        rw [hfb] at hfl
        obtain ⟨s, hq, hks, hpl, hp2, hp3⟩ := fld_some hfb
        have hrg := shp_range.2 s hq
        clear hfb hd50
        by_cases h1 : op = 1
        · subst h1
          obtain rfl : (⟨8, [], [], [], []⟩ : Shp) = s := Option.some.inj hq
          obtain rfl : ks = [] := List.length_eq_zero_iff.1 hks
          rw [textF_at hq]
          have hpq := hpl (by decide) (by decide)
          rw [okF_at d hq hks hpq]
          unfold plainB at hpq
          rw [if_pos rfl] at hpq
          simp only [Bool.and_eq_true, decide_eq_true_iff] at hpq
          have h := rx_lit w0 b T A c nm pr v d w hr hfl hp hn hs ht hT hpq.1.1.2 hpq.1.2
          have eB : (!(decide (deepD 1 d ≤ 50) && okK [] [] (deepD 1 d))) = false := by rw [okK_nil, show deepD 1 d = d from rfl, decide_eq_true hd]; rfl
          rw [eB]
          simpa [textK_nil, coreX] using h
        by_cases h2 : op = 2
        · subst h2
          obtain rfl : (⟨8, [], [], [], []⟩ : Shp) = s := Option.some.inj hq
          obtain rfl : ks = [] := List.length_eq_zero_iff.1 hks
          rw [textF_at hq]
          have eB : okF 2 A [] c nm pr v (okK []) d = namedB nm := by
            rw [← hp2 rfl]
            unfold okF
            rw [hq]
            show (decide (([] : List XD).length = 0) && plainB 2 nm pr v && decide (d ≤ 50) && true) = _
            rw [decide_eq_true hd]
            simp
          rw [eB]
          simpa [coreX, textK_nil] using rx_var w0 b T A c nm pr v d w hr hfl hnm hT
        by_cases h3 : op = 3
        · subst h3
          obtain rfl : (⟨8, [], [], [], []⟩ : Shp) = s := Option.some.inj hq
          obtain rfl : ks = [] := List.length_eq_zero_iff.1 hks
          rw [textF_at hq]
          have eB : okF 3 A [] c nm pr v (okK []) d = (namedB nm && namedB pr) := by
            rw [← hp3 rfl]
            unfold okF
            rw [hq]
            show (decide (([] : List XD).length = 0) && plainB 3 nm pr v && decide (d ≤ 50) && true) = _
            rw [decide_eq_true hd]
            simp
          rw [eB, Bool.not_and]
          simpa [coreX, textK_nil] using rx_prop w0 b T A c nm pr v d w hr hfl hnm hpr hT
        by_cases h4 : op = 4
        · subst h4
          obtain rfl : (⟨1, [1, 2], [], [32, 79, 82, 32], []⟩ : Shp) = s := Option.some.inj hq
          obtain ⟨k0, k1, rfl⟩ := len_2 hks
          rw [textF_at hq]
          have hpq := hpl (by decide) (by decide)
          rw [okF_at d hq hks hpq]
          have h := rx_two w0 b T A c nm pr v d w 4 k0 k1 1 2 [79, 82] hr hfl hd (by decide) (by decide) (fun W => asks_4_0 W) (by decide) (fun W => asks_4_1 W) (by decide) (fun W => sign_4 W) (by decide) hx ih
          have eB : (!(decide (deepD 4 d ≤ 50) && okK [k0, k1] [1, 2] (deepD 4 d))) = (!kidB 1 k0 d || !kidB 2 k1 d) := by
            rw [show deepD 4 d = d from rfl, decide_eq_true hd, show okK [k0, k1] [1, 2] d = (kidB 1 k0 d && (kidB 2 k1 d && true)) from rfl]
            cases kidB 1 k0 d <;> cases kidB 2 k1 d <;> rfl
          rw [eB]
          have eT : textK [k0, k1] [1, 2] [32, 79, 82, 32] true = kidT 1 k0 ++ ([32, 79, 82, 32] ++ (kidT 2 k1 ++ [])) := rfl
          rw [eT]
          simpa [coreX] using h
        by_cases h5 : op = 5
        · subst h5
          obtain rfl : (⟨2, [2, 3], [], [32, 65, 78, 68, 32], []⟩ : Shp) = s := Option.some.inj hq
          obtain ⟨k0, k1, rfl⟩ := len_2 hks
          rw [textF_at hq]
          have hpq := hpl (by decide) (by decide)
          rw [okF_at d hq hks hpq]
          have h := rx_two w0 b T A c nm pr v d w 5 k0 k1 2 3 [65, 78, 68] hr hfl hd (by decide) (by decide) (fun W => asks_5_0 W) (by decide) (fun W => asks_5_1 W) (by decide) (fun W => sign_5 W) (by decide) hx ih
          have eB : (!(decide (deepD 5 d ≤ 50) && okK [k0, k1] [2, 3] (deepD 5 d))) = (!kidB 2 k0 d || !kidB 3 k1 d) := by
            rw [show deepD 5 d = d from rfl, decide_eq_true hd, show okK [k0, k1] [2, 3] d = (kidB 2 k0 d && (kidB 3 k1 d && true)) from rfl]
            cases kidB 2 k0 d <;> cases kidB 3 k1 d <;> rfl
          rw [eB]
          have eT : textK [k0, k1] [2, 3] [32, 65, 78, 68, 32] true = kidT 2 k0 ++ ([32, 65, 78, 68, 32] ++ (kidT 3 k1 ++ [])) := rfl
          rw [eT]
          simpa [coreX] using h
        by_cases h6 : op = 6
        · subst h6
          obtain rfl : (⟨4, [5, 5], [], [32, 61, 32], []⟩ : Shp) = s := Option.some.inj hq
          obtain ⟨k0, k1, rfl⟩ := len_2 hks
          rw [textF_at hq]
          have hpq := hpl (by decide) (by decide)
          rw [okF_at d hq hks hpq]
          have h := rx_two w0 b T A c nm pr v d w 6 k0 k1 5 5 [61] hr hfl hd (by decide) (by decide) (fun W => asks_6_0 W) (by decide) (fun W => asks_6_1 W) (by decide) (fun W => sign_6 W) (by decide) hx ih
          have eB : (!(decide (deepD 6 d ≤ 50) && okK [k0, k1] [5, 5] (deepD 6 d))) = (!kidB 5 k0 d || !kidB 5 k1 d) := by
            rw [show deepD 6 d = d from rfl, decide_eq_true hd, show okK [k0, k1] [5, 5] d = (kidB 5 k0 d && (kidB 5 k1 d && true)) from rfl]
            cases kidB 5 k0 d <;> cases kidB 5 k1 d <;> rfl
          rw [eB]
          have eT : textK [k0, k1] [5, 5] [32, 61, 32] true = kidT 5 k0 ++ ([32, 61, 32] ++ (kidT 5 k1 ++ [])) := rfl
          rw [eT]
          simpa [coreX] using h
        by_cases h7 : op = 7
        · subst h7
          obtain rfl : (⟨4, [5, 5], [], [32, 60, 62, 32], []⟩ : Shp) = s := Option.some.inj hq
          obtain ⟨k0, k1, rfl⟩ := len_2 hks
          rw [textF_at hq]
          have hpq := hpl (by decide) (by decide)
          rw [okF_at d hq hks hpq]
          have h := rx_two w0 b T A c nm pr v d w 7 k0 k1 5 5 [60, 62] hr hfl hd (by decide) (by decide) (fun W => asks_7_0 W) (by decide) (fun W => asks_7_1 W) (by decide) (fun W => sign_7 W) (by decide) hx ih
          have eB : (!(decide (deepD 7 d ≤ 50) && okK [k0, k1] [5, 5] (deepD 7 d))) = (!kidB 5 k0 d || !kidB 5 k1 d) := by
            rw [show deepD 7 d = d from rfl, decide_eq_true hd, show okK [k0, k1] [5, 5] d = (kidB 5 k0 d && (kidB 5 k1 d && true)) from rfl]
            cases kidB 5 k0 d <;> cases kidB 5 k1 d <;> rfl
          rw [eB]
          have eT : textK [k0, k1] [5, 5] [32, 60, 62, 32] true = kidT 5 k0 ++ ([32, 60, 62, 32] ++ (kidT 5 k1 ++ [])) := rfl
          rw [eT]
          simpa [coreX] using h
        by_cases h8 : op = 8
        · subst h8
          obtain rfl : (⟨4, [5, 5], [], [32, 60, 32], []⟩ : Shp) = s := Option.some.inj hq
          obtain ⟨k0, k1, rfl⟩ := len_2 hks
          rw [textF_at hq]
          have hpq := hpl (by decide) (by decide)
          rw [okF_at d hq hks hpq]
          have h := rx_two w0 b T A c nm pr v d w 8 k0 k1 5 5 [60] hr hfl hd (by decide) (by decide) (fun W => asks_8_0 W) (by decide) (fun W => asks_8_1 W) (by decide) (fun W => sign_8 W) (by decide) hx ih
          have eB : (!(decide (deepD 8 d ≤ 50) && okK [k0, k1] [5, 5] (deepD 8 d))) = (!kidB 5 k0 d || !kidB 5 k1 d) := by
            rw [show deepD 8 d = d from rfl, decide_eq_true hd, show okK [k0, k1] [5, 5] d = (kidB 5 k0 d && (kidB 5 k1 d && true)) from rfl]
            cases kidB 5 k0 d <;> cases kidB 5 k1 d <;> rfl
          rw [eB]
          have eT : textK [k0, k1] [5, 5] [32, 60, 32] true = kidT 5 k0 ++ ([32, 60, 32] ++ (kidT 5 k1 ++ [])) := rfl
          rw [eT]
          simpa [coreX] using h
        by_cases h9 : op = 9
        · subst h9
          obtain rfl : (⟨4, [5, 5], [], [32, 60, 61, 32], []⟩ : Shp) = s := Option.some.inj hq
          obtain ⟨k0, k1, rfl⟩ := len_2 hks
          rw [textF_at hq]
          have hpq := hpl (by decide) (by decide)
          rw [okF_at d hq hks hpq]
          have h := rx_two w0 b T A c nm pr v d w 9 k0 k1 5 5 [60, 61] hr hfl hd (by decide) (by decide) (fun W => asks_9_0 W) (by decide) (fun W => asks_9_1 W) (by decide) (fun W => sign_9 W) (by decide) hx ih
          have eB : (!(decide (deepD 9 d ≤ 50) && okK [k0, k1] [5, 5] (deepD 9 d))) = (!kidB 5 k0 d || !kidB 5 k1 d) := by
            rw [show deepD 9 d = d from rfl, decide_eq_true hd, show okK [k0, k1] [5, 5] d = (kidB 5 k0 d && (kidB 5 k1 d && true)) from rfl]
            cases kidB 5 k0 d <;> cases kidB 5 k1 d <;> rfl
          rw [eB]
          have eT : textK [k0, k1] [5, 5] [32, 60, 61, 32] true = kidT 5 k0 ++ ([32, 60, 61, 32] ++ (kidT 5 k1 ++ [])) := rfl
          rw [eT]
          simpa [coreX] using h
        by_cases h10 : op = 10
        · subst h10
          obtain rfl : (⟨4, [5, 5], [], [32, 62, 32], []⟩ : Shp) = s := Option.some.inj hq
          obtain ⟨k0, k1, rfl⟩ := len_2 hks
          rw [textF_at hq]
          have hpq := hpl (by decide) (by decide)
          rw [okF_at d hq hks hpq]
          have h := rx_two w0 b T A c nm pr v d w 10 k0 k1 5 5 [62] hr hfl hd (by decide) (by decide) (fun W => asks_10_0 W) (by decide) (fun W => asks_10_1 W) (by decide) (fun W => sign_10 W) (by decide) hx ih
          have eB : (!(decide (deepD 10 d ≤ 50) && okK [k0, k1] [5, 5] (deepD 10 d))) = (!kidB 5 k0 d || !kidB 5 k1 d) := by
            rw [show deepD 10 d = d from rfl, decide_eq_true hd, show okK [k0, k1] [5, 5] d = (kidB 5 k0 d && (kidB 5 k1 d && true)) from rfl]
            cases kidB 5 k0 d <;> cases kidB 5 k1 d <;> rfl
          rw [eB]
          have eT : textK [k0, k1] [5, 5] [32, 62, 32] true = kidT 5 k0 ++ ([32, 62, 32] ++ (kidT 5 k1 ++ [])) := rfl
          rw [eT]
          simpa [coreX] using h
        by_cases h11 : op = 11
        · subst h11
          obtain rfl : (⟨4, [5, 5], [], [32, 62, 61, 32], []⟩ : Shp) = s := Option.some.inj hq
          obtain ⟨k0, k1, rfl⟩ := len_2 hks
          rw [textF_at hq]
          have hpq := hpl (by decide) (by decide)
          rw [okF_at d hq hks hpq]
          have h := rx_two w0 b T A c nm pr v d w 11 k0 k1 5 5 [62, 61] hr hfl hd (by decide) (by decide) (fun W => asks_11_0 W) (by decide) (fun W => asks_11_1 W) (by decide) (fun W => sign_11 W) (by decide) hx ih
          have eB : (!(decide (deepD 11 d ≤ 50) && okK [k0, k1] [5, 5] (deepD 11 d))) = (!kidB 5 k0 d || !kidB 5 k1 d) := by
            rw [show deepD 11 d = d from rfl, decide_eq_true hd, show okK [k0, k1] [5, 5] d = (kidB 5 k0 d && (kidB 5 k1 d && true)) from rfl]
            cases kidB 5 k0 d <;> cases kidB 5 k1 d <;> rfl
          rw [eB]
          have eT : textK [k0, k1] [5, 5] [32, 62, 61, 32] true = kidT 5 k0 ++ ([32, 62, 61, 32] ++ (kidT 5 k1 ++ [])) := rfl
          rw [eT]
          simpa [coreX] using h
        by_cases h12 : op = 12
        · subst h12
          obtain rfl : (⟨5, [5, 6], [], [32, 43, 32], []⟩ : Shp) = s := Option.some.inj hq
          obtain ⟨k0, k1, rfl⟩ := len_2 hks
          rw [textF_at hq]
          have hpq := hpl (by decide) (by decide)
          rw [okF_at d hq hks hpq]
          have h := rx_two w0 b T A c nm pr v d w 12 k0 k1 5 6 [43] hr hfl hd (by decide) (by decide) (fun W => asks_12_0 W) (by decide) (fun W => asks_12_1 W) (by decide) (fun W => sign_12 W) (by decide) hx ih
          have eB : (!(decide (deepD 12 d ≤ 50) && okK [k0, k1] [5, 6] (deepD 12 d))) = (!kidB 5 k0 d || !kidB 6 k1 d) := by
            rw [show deepD 12 d = d from rfl, decide_eq_true hd, show okK [k0, k1] [5, 6] d = (kidB 5 k0 d && (kidB 6 k1 d && true)) from rfl]
            cases kidB 5 k0 d <;> cases kidB 6 k1 d <;> rfl
          rw [eB]
          have eT : textK [k0, k1] [5, 6] [32, 43, 32] true = kidT 5 k0 ++ ([32, 43, 32] ++ (kidT 6 k1 ++ [])) := rfl
          rw [eT]
          simpa [coreX] using h
        by_cases h13 : op = 13
        · subst h13
          obtain rfl : (⟨5, [5, 6], [], [32, 45, 32], []⟩ : Shp) = s := Option.some.inj hq
          obtain ⟨k0, k1, rfl⟩ := len_2 hks
          rw [textF_at hq]
          have hpq := hpl (by decide) (by decide)
          rw [okF_at d hq hks hpq]
          have h := rx_two w0 b T A c nm pr v d w 13 k0 k1 5 6 [45] hr hfl hd (by decide) (by decide) (fun W => asks_13_0 W) (by decide) (fun W => asks_13_1 W) (by decide) (fun W => sign_13 W) (by decide) hx ih
          have eB : (!(decide (deepD 13 d ≤ 50) && okK [k0, k1] [5, 6] (deepD 13 d))) = (!kidB 5 k0 d || !kidB 6 k1 d) := by
            rw [show deepD 13 d = d from rfl, decide_eq_true hd, show okK [k0, k1] [5, 6] d = (kidB 5 k0 d && (kidB 6 k1 d && true)) from rfl]
            cases kidB 5 k0 d <;> cases kidB 6 k1 d <;> rfl
          rw [eB]
          have eT : textK [k0, k1] [5, 6] [32, 45, 32] true = kidT 5 k0 ++ ([32, 45, 32] ++ (kidT 6 k1 ++ [])) := rfl
          rw [eT]
          simpa [coreX] using h
        by_cases h14 : op = 14
        · subst h14
          obtain rfl : (⟨6, [6, 7], [], [32, 42, 32], []⟩ : Shp) = s := Option.some.inj hq
          obtain ⟨k0, k1, rfl⟩ := len_2 hks
          rw [textF_at hq]
          have hpq := hpl (by decide) (by decide)
          rw [okF_at d hq hks hpq]
          have h := rx_two w0 b T A c nm pr v d w 14 k0 k1 6 7 [42] hr hfl hd (by decide) (by decide) (fun W => asks_14_0 W) (by decide) (fun W => asks_14_1 W) (by decide) (fun W => sign_14 W) (by decide) hx ih
          have eB : (!(decide (deepD 14 d ≤ 50) && okK [k0, k1] [6, 7] (deepD 14 d))) = (!kidB 6 k0 d || !kidB 7 k1 d) := by
            rw [show deepD 14 d = d from rfl, decide_eq_true hd, show okK [k0, k1] [6, 7] d = (kidB 6 k0 d && (kidB 7 k1 d && true)) from rfl]
            cases kidB 6 k0 d <;> cases kidB 7 k1 d <;> rfl
          rw [eB]
          have eT : textK [k0, k1] [6, 7] [32, 42, 32] true = kidT 6 k0 ++ ([32, 42, 32] ++ (kidT 7 k1 ++ [])) := rfl
          rw [eT]
          simpa [coreX] using h
        by_cases h15 : op = 15
        · subst h15
          obtain rfl : (⟨6, [6, 7], [], [32, 47, 32], []⟩ : Shp) = s := Option.some.inj hq
          obtain ⟨k0, k1, rfl⟩ := len_2 hks
          rw [textF_at hq]
          have hpq := hpl (by decide) (by decide)
          rw [okF_at d hq hks hpq]
          have h := rx_two w0 b T A c nm pr v d w 15 k0 k1 6 7 [47] hr hfl hd (by decide) (by decide) (fun W => asks_15_0 W) (by decide) (fun W => asks_15_1 W) (by decide) (fun W => sign_15 W) (by decide) hx ih
          have eB : (!(decide (deepD 15 d ≤ 50) && okK [k0, k1] [6, 7] (deepD 15 d))) = (!kidB 6 k0 d || !kidB 7 k1 d) := by
            rw [show deepD 15 d = d from rfl, decide_eq_true hd, show okK [k0, k1] [6, 7] d = (kidB 6 k0 d && (kidB 7 k1 d && true)) from rfl]
            cases kidB 6 k0 d <;> cases kidB 7 k1 d <;> rfl
          rw [eB]
          have eT : textK [k0, k1] [6, 7] [32, 47, 32] true = kidT 6 k0 ++ ([32, 47, 32] ++ (kidT 7 k1 ++ [])) := rfl
          rw [eT]
          simpa [coreX] using h
        by_cases h16 : op = 16
        · subst h16
          obtain rfl : (⟨6, [6, 7], [], [32, 37, 32], []⟩ : Shp) = s := Option.some.inj hq
          obtain ⟨k0, k1, rfl⟩ := len_2 hks
          rw [textF_at hq]
          have hpq := hpl (by decide) (by decide)
          rw [okF_at d hq hks hpq]
          have h := rx_two w0 b T A c nm pr v d w 16 k0 k1 6 7 [37] hr hfl hd (by decide) (by decide) (fun W => asks_16_0 W) (by decide) (fun W => asks_16_1 W) (by decide) (fun W => sign_16 W) (by decide) hx ih
          have eB : (!(decide (deepD 16 d ≤ 50) && okK [k0, k1] [6, 7] (deepD 16 d))) = (!kidB 6 k0 d || !kidB 7 k1 d) := by
            rw [show deepD 16 d = d from rfl, decide_eq_true hd, show okK [k0, k1] [6, 7] d = (kidB 6 k0 d && (kidB 7 k1 d && true)) from rfl]
            cases kidB 6 k0 d <;> cases kidB 7 k1 d <;> rfl
          rw [eB]
          have eT : textK [k0, k1] [6, 7] [32, 37, 32] true = kidT 6 k0 ++ ([32, 37, 32] ++ (kidT 7 k1 ++ [])) := rfl
          rw [eT]
          simpa [coreX] using h
        by_cases h17 : op = 17
        · subst h17
          obtain rfl : (⟨3, [3], [78, 79, 84, 32], [], []⟩ : Shp) = s := Option.some.inj hq
          obtain ⟨k0, rfl⟩ := len_1 hks
          rw [textF_at hq]
          have hpq := hpl (by decide) (by decide)
          rw [okF_at d hq hks hpq]
          have h := rx_17 w0 b T A c nm pr v d w k0 hr hfl hd hx ih
          have eB : (!(decide (deepD 17 d ≤ 50) && okK [k0] [3] (deepD 17 d))) = (decide (50 < d + 1) || !kidB 3 k0 (d + 1)) := by
            rw [show deepD 17 d = d + 1 from rfl, not_lt50, show okK [k0] [3] (d + 1) = (kidB 3 k0 (d + 1) && true) from rfl]
            cases decide (d + 1 ≤ 50) <;> cases kidB 3 k0 (d + 1) <;> rfl
          rw [eB]
          have eT : textK [k0] [3] [] true = kidT 3 k0 ++ [] := rfl
          rw [eT]
          simpa [coreX] using h
        by_cases h18 : op = 18
        · subst h18
          obtain rfl : (⟨7, [7], [45], [], []⟩ : Shp) = s := Option.some.inj hq
          obtain ⟨k0, rfl⟩ := len_1 hks
          rw [textF_at hq]
          have hpq := hpl (by decide) (by decide)
          rw [okF_at d hq hks hpq]
          have h := rx_18 w0 b T A c nm pr v d w k0 hr hfl hd hx ih
          have eB : (!(decide (deepD 18 d ≤ 50) && okK [k0] [7] (deepD 18 d))) = (decide (50 < d + 1) || !kidB 7 k0 (d + 1)) := by
            rw [show deepD 18 d = d + 1 from rfl, not_lt50, show okK [k0] [7] (d + 1) = (kidB 7 k0 (d + 1) && true) from rfl]
            cases decide (d + 1 ≤ 50) <;> cases kidB 7 k0 (d + 1) <;> rfl
          rw [eB]
          have eT : textK [k0] [7] [] true = kidT 7 k0 ++ [] := rfl
          rw [eT]
          simpa [coreX] using h
        by_cases h19 : op = 19
        · subst h19
          obtain rfl : (⟨4, [5], [], [], [32, 73, 83, 32, 78, 85, 76, 76]⟩ : Shp) = s := Option.some.inj hq
          obtain ⟨k0, rfl⟩ := len_1 hks
          rw [textF_at hq]
          have hpq := hpl (by decide) (by decide)
          rw [okF_at d hq hks hpq]
          have h := rx_19 w0 b T A c nm pr v d w k0 hr hfl hd hx ih
          have eB : (!(decide (deepD 19 d ≤ 50) && okK [k0] [5] (deepD 19 d))) = (!kidB 5 k0 d) := by
            rw [show deepD 19 d = d from rfl, decide_eq_true hd, show okK [k0] [5] d = (kidB 5 k0 d && true) from rfl]
            cases kidB 5 k0 d <;> rfl
          rw [eB]
          have eT : textK [k0] [5] [] true = kidT 5 k0 ++ [] := rfl
          rw [eT]
          simpa [coreX] using h
        by_cases h20 : op = 20
        · subst h20
          obtain rfl : (⟨4, [5], [], [], [32, 73, 83, 32, 78, 79, 84, 32, 78, 85, 76, 76]⟩ : Shp) = s := Option.some.inj hq
          obtain ⟨k0, rfl⟩ := len_1 hks
          rw [textF_at hq]
          have hpq := hpl (by decide) (by decide)
          rw [okF_at d hq hks hpq]
          have h := rx_20 w0 b T A c nm pr v d w k0 hr hfl hd hx ih
          have eB : (!(decide (deepD 20 d ≤ 50) && okK [k0] [5] (deepD 20 d))) = (!kidB 5 k0 d) := by
            rw [show deepD 20 d = d from rfl, decide_eq_true hd, show okK [k0] [5] d = (kidB 5 k0 d && true) from rfl]
            cases kidB 5 k0 d <;> rfl
          rw [eB]
          have eT : textK [k0] [5] [] true = kidT 5 k0 ++ [] := rfl
          rw [eT]
          simpa [coreX] using h
        by_cases h21 : op = 21
        · subst h21
          obtain rfl : (⟨8, [1], [76, 69, 78, 71, 84, 72, 40], [], [41]⟩ : Shp) = s := Option.some.inj hq
          obtain ⟨k0, rfl⟩ := len_1 hks
          rw [textF_at hq]
          have hpq := hpl (by decide) (by decide)
          rw [okF_at d hq hks hpq]
          have h := rx_21 w0 b T A c nm pr v d w k0 hr hfl hd hx (ih k0 (by simp))
          rw [show deepD 21 d = d + 1 from rfl, show okK [k0] [1] (d + 1) = (kidB 1 k0 (d + 1) && true) from rfl, show textK [k0] [1] [] true = kidT 1 k0 ++ [] from rfl]
          refine h.mono ?_
          rintro e w' ⟨he, h1, h2⟩
          refine ⟨he, ?_, h2⟩
          rw [not_lt50] at h1
          rcases kid_ge (aj := 1) (k := k0) (lev_ge k0.op) (d + 1) with ⟨g1, g2⟩ | ⟨g1, g2⟩
          · rw [g1, g2]
            have eB : (!(decide (d + 1 ≤ 50) && (okX k0 (d + 1) && true))) = (!decide (d + 1 ≤ 50) || !okX k0 (d + 1)) := by cases decide (d + 1 ≤ 50) <;> cases okX k0 (d + 1) <;> rfl
            rw [eB]
            simpa [coreX] using h1
          · rw [g2]
            rw [g1] at h1
            have eB : (!(decide (d + 1 ≤ 50) && (false && true))) = true := by cases decide (d + 1 ≤ 50) <;> rfl
            rw [eB]
            have h1b : RS w0 b (T ++ ([76, 69, 78, 71, 84, 72, 40] ++ (textX k0 ++ [41]))) d true w' := by simpa using h1
            exact h1b.any _
        by_cases h22 : op = 22
        · subst h22
          obtain rfl : (⟨8, [1], [67, 79, 85, 78, 84, 40], [], [41]⟩ : Shp) = s := Option.some.inj hq
          obtain ⟨k0, rfl⟩ := len_1 hks
          rw [textF_at hq]
          have hpq := hpl (by decide) (by decide)
          rw [okF_at d hq hks hpq]
          have h := rx_22 w0 b T A c nm pr v d w k0 hr hfl hd hx (ih k0 (by simp))
          rw [show deepD 22 d = d + 1 from rfl, show okK [k0] [1] (d + 1) = (kidB 1 k0 (d + 1) && true) from rfl, show textK [k0] [1] [] true = kidT 1 k0 ++ [] from rfl]
          refine h.mono ?_
          rintro e w' ⟨he, h1, h2⟩
          refine ⟨he, ?_, h2⟩
          rw [not_lt50] at h1
          rcases kid_ge (aj := 1) (k := k0) (lev_ge k0.op) (d + 1) with ⟨g1, g2⟩ | ⟨g1, g2⟩
          · rw [g1, g2]
            have eB : (!(decide (d + 1 ≤ 50) && (okX k0 (d + 1) && true))) = (!decide (d + 1 ≤ 50) || !okX k0 (d + 1)) := by cases decide (d + 1 ≤ 50) <;> cases okX k0 (d + 1) <;> rfl
            rw [eB]
            simpa [coreX] using h1
          · rw [g2]
            rw [g1] at h1
            have eB : (!(decide (d + 1 ≤ 50) && (false && true))) = true := by cases decide (d + 1 ≤ 50) <;> rfl
            rw [eB]
            have h1b : RS w0 b (T ++ ([67, 79, 85, 78, 84, 40] ++ (textX k0 ++ [41]))) d true w' := by simpa using h1
            exact h1b.any _
        by_cases h23 : op = 23
        · subst h23
          obtain rfl : (⟨8, [1], [83, 85, 77, 40], [], [41]⟩ : Shp) = s := Option.some.inj hq
          obtain ⟨k0, rfl⟩ := len_1 hks
          rw [textF_at hq]
          have hpq := hpl (by decide) (by decide)
          rw [okF_at d hq hks hpq]
          have h := rx_23 w0 b T A c nm pr v d w k0 hr hfl hd hx (ih k0 (by simp))
          rw [show deepD 23 d = d + 1 from rfl, show okK [k0] [1] (d + 1) = (kidB 1 k0 (d + 1) && true) from rfl, show textK [k0] [1] [] true = kidT 1 k0 ++ [] from rfl]
          refine h.mono ?_
          rintro e w' ⟨he, h1, h2⟩
          refine ⟨he, ?_, h2⟩
          rw [not_lt50] at h1
          rcases kid_ge (aj := 1) (k := k0) (lev_ge k0.op) (d + 1) with ⟨g1, g2⟩ | ⟨g1, g2⟩
          · rw [g1, g2]
            have eB : (!(decide (d + 1 ≤ 50) && (okX k0 (d + 1) && true))) = (!decide (d + 1 ≤ 50) || !okX k0 (d + 1)) := by cases decide (d + 1 ≤ 50) <;> cases okX k0 (d + 1) <;> rfl
            rw [eB]
            simpa [coreX] using h1
          · rw [g2]
            rw [g1] at h1
            have eB : (!(decide (d + 1 ≤ 50) && (false && true))) = true := by cases decide (d + 1 ≤ 50) <;> rfl
            rw [eB]
            have h1b : RS w0 b (T ++ ([83, 85, 77, 40] ++ (textX k0 ++ [41]))) d true w' := by simpa using h1
            exact h1b.any _
        by_cases h24 : op = 24
        · subst h24
          obtain rfl : (⟨8, [1], [77, 73, 78, 40], [], [41]⟩ : Shp) = s := Option.some.inj hq
          obtain ⟨k0, rfl⟩ := len_1 hks
          rw [textF_at hq]
          have hpq := hpl (by decide) (by decide)
          rw [okF_at d hq hks hpq]
          have h := rx_24 w0 b T A c nm pr v d w k0 hr hfl hd hx (ih k0 (by simp))
          rw [show deepD 24 d = d + 1 from rfl, show okK [k0] [1] (d + 1) = (kidB 1 k0 (d + 1) && true) from rfl, show textK [k0] [1] [] true = kidT 1 k0 ++ [] from rfl]
          refine h.mono ?_
          rintro e w' ⟨he, h1, h2⟩
          refine ⟨he, ?_, h2⟩
          rw [not_lt50] at h1
          rcases kid_ge (aj := 1) (k := k0) (lev_ge k0.op) (d + 1) with ⟨g1, g2⟩ | ⟨g1, g2⟩
          · rw [g1, g2]
            have eB : (!(decide (d + 1 ≤ 50) && (okX k0 (d + 1) && true))) = (!decide (d + 1 ≤ 50) || !okX k0 (d + 1)) := by cases decide (d + 1 ≤ 50) <;> cases okX k0 (d + 1) <;> rfl
            rw [eB]
            simpa [coreX] using h1
          · rw [g2]
            rw [g1] at h1
            have eB : (!(decide (d + 1 ≤ 50) && (false && true))) = true := by cases decide (d + 1 ≤ 50) <;> rfl
            rw [eB]
            have h1b : RS w0 b (T ++ ([77, 73, 78, 40] ++ (textX k0 ++ [41]))) d true w' := by simpa using h1
            exact h1b.any _
        by_cases h25 : op = 25
        · subst h25
          obtain rfl : (⟨8, [1], [77, 65, 88, 40], [], [41]⟩ : Shp) = s := Option.some.inj hq
          obtain ⟨k0, rfl⟩ := len_1 hks
          rw [textF_at hq]
          have hpq := hpl (by decide) (by decide)
          rw [okF_at d hq hks hpq]
          have h := rx_25 w0 b T A c nm pr v d w k0 hr hfl hd hx (ih k0 (by simp))
          rw [show deepD 25 d = d + 1 from rfl, show okK [k0] [1] (d + 1) = (kidB 1 k0 (d + 1) && true) from rfl, show textK [k0] [1] [] true = kidT 1 k0 ++ [] from rfl]
          refine h.mono ?_
          rintro e w' ⟨he, h1, h2⟩
          refine ⟨he, ?_, h2⟩
          rw [not_lt50] at h1
          rcases kid_ge (aj := 1) (k := k0) (lev_ge k0.op) (d + 1) with ⟨g1, g2⟩ | ⟨g1, g2⟩
          · rw [g1, g2]
            have eB : (!(decide (d + 1 ≤ 50) && (okX k0 (d + 1) && true))) = (!decide (d + 1 ≤ 50) || !okX k0 (d + 1)) := by cases decide (d + 1 ≤ 50) <;> cases okX k0 (d + 1) <;> rfl
            rw [eB]
            simpa [coreX] using h1
          · rw [g2]
            rw [g1] at h1
            have eB : (!(decide (d + 1 ≤ 50) && (false && true))) = true := by cases decide (d + 1 ≤ 50) <;> rfl
            rw [eB]
            have h1b : RS w0 b (T ++ ([77, 65, 88, 40] ++ (textX k0 ++ [41]))) d true w' := by simpa using h1
            exact h1b.any _
        by_cases h26 : op = 26
        · subst h26
          obtain rfl : (⟨8, [], [67, 79, 85, 78, 84, 40, 42], [], [41]⟩ : Shp) = s := Option.some.inj hq
          obtain rfl : ks = [] := List.length_eq_zero_iff.1 hks
          rw [textF_at hq]
          have hpq := hpl (by decide) (by decide)
          rw [okF_at d hq hks hpq]
          have h := rx_26 w0 b T A c nm pr v d w hr hfl hd
          have eB : (!(decide (deepD 26 d ≤ 50) && okK [] [] (deepD 26 d))) = decide (50 < d + 1) := by
            rw [show deepD 26 d = d + 1 from rfl, not_lt50, okK_nil]
            cases decide (d + 1 ≤ 50) <;> rfl
          rw [eB]
          simpa [coreX, textK_nil] using h
        omega
set_option maxRecDepth 100000 in
set_option maxHeartbeats 1600000 in
theorem RS.done {w0 : World} {b : Nat} {T : List UInt8} {d : Int} {fl : Bool} {W : World} (h : RS w0 b T d fl W) :
    Calls Tryd.prog 17 #[.pointer (some ⟨b, 0, none⟩)] W fun e w' => e = .returned (.tuple #[.string ⟨(toldT fl T).toArray⟩, .int .i64 (toldE fl T)]) ∧ Below w0.heap.size w0 w' := by
  have hc := h.cells.2
  obtain ⟨bs, ⟨hB, v, hbk, hown, hne⟩, hl, hcut, hb⟩ := h
  have HB := Aside0.mk hb
  obtain ⟨ao, cap, rfl⟩ : ∃ ao cap, v = .slice ao bs.length cap := by
    rcases hown.2 with ⟨hv, h0⟩ | ⟨g, cap, cur, hv, _⟩
    · exact ⟨none, 0, by rw [hv, h0]⟩
    · exact ⟨_, _, hv⟩
  have c0 : W.cell? ⟨b, 0, none⟩ = some (.slice ao bs.length cap) := by rw [Lib.cell_of_heap hbk]; rfl
  have hown2 : W.ownsRow w0.heap.size 5 1 (.slice ao bs.length cap) (Lib.byteCells bs).length (Lib.byteCells bs) := by rw [Lib.byteCells_length]; exact hown
  have hcv := conv_str hown2 (allU8_bytes bs)
  rw [strOf_bytes] at hcv
  cases fl with
  | true =>
    clear hown hown2 hcut hb hl hbk hne hcv
    go_enter Tryd.func17, Tryd.ntmps17
    go_wp2
    go_ret2
    exact ⟨rfl, HB.out⟩
  | false =>
    have hcut := hcut rfl
    by_cases ht : T.length ≤ 4096
    · obtain rfl := hcut.eq ht
      have h4 : ¬ (4096 : Int) < (bs.length : Int) := by omega
      have HR : Aside0 (toldT false bs = bs ∧ toldE false bs = 0) := ⟨by simp [toldT, toldE, ht]⟩
      clear hown hown2 hcut hb hl hbk hne ht
      go_enter Tryd.func17, Tryd.ntmps17
      go_wp2
      go_ret2
      rw [HR.out.1, HR.out.2]
      exact ⟨rfl, HB.out⟩
    · have hm := hcut.more (by omega)
      have h4 : (4096 : Int) < (bs.length : Int) := by omega
      have HR : Aside0 (toldT false T = [] ∧ toldE false T = 2) := ⟨by simp [toldT, toldE, ht]⟩
      clear hown hown2 hcut hb hl hbk hne ht hm hcv
      go_enter Tryd.func17, Tryd.ntmps17
      go_wp2
      go_ret2
      rw [HR.out.1, HR.out.2]
      exact ⟨rfl, HB.out⟩
theorem RS.fresh {w0 W : World} (hb : Below w0.heap.size w0 W) : RS w0 W.heap.size [] 0 false (W.alloc (.cells #[.slice none 0 0, .int .i64 0, .bool false] TW)) :=
  ⟨[], ⟨hb.size, .slice none 0 0, heap_alloc_new W _, World.ownsRow_nil _ _ _ _, by simp [Value.ownBlock]⟩, by simp, fun _ => CutT.nil, below_more hb _⟩

set_option maxRecDepth 100000 in
set_option maxHeartbeats 1600000 in
theorem rprint_expr (x : XD) (w : World) (hx : ReadsXD w x) (ht : Tabs w) (hT : Lib.Utf8Tabs 1 2 w) :
    Calls Tryd.prog 8 #[.agg #[.int .i64 x.op, .slice x.A x.ks.length x.c, .string x.nm, .string x.pr, .int .i64 x.v.k, .bool x.v.b, .int .i64 x.v.n, .string x.v.s, .slice x.v.A x.v.p.length x.v.c]] w
      fun e w' => e = .returned (.tuple #[.string ⟨(toldT (!okX x 0) (textX x)).toArray⟩, .int .i64 (toldE (!okX x 0) (textX x))]) ∧ Below w.heap.size w w' := by
  have hws := RS.fresh (w0 := w) (W := (w.alloc (.cells #[.int .i64 x.op, .slice x.A x.ks.length x.c, .string x.nm, .string x.pr, .int .i64 x.v.k, .bool x.v.b, .int .i64 x.v.n, .string x.v.s, .slice x.v.A x.v.p.length x.v.c] 29))) (below_more (Below.refl _ _) _)
  have hex := rexpr_any w (w.alloc (.cells #[.int .i64 x.op, .slice x.A x.ks.length x.c, .string x.nm, .string x.pr, .int .i64 x.v.k, .bool x.v.b, .int .i64 x.v.n, .string x.v.s, .slice x.v.A x.v.p.length x.v.c] 29)).heap.size ht hT hx 0 [] false _ hws (fun _ => by omega)
  have hsz : (w.alloc (.cells #[.int .i64 x.op, .slice x.A x.ks.length x.c, .string x.nm, .string x.pr, .int .i64 x.v.k, .bool x.v.b, .int .i64 x.v.n, .string x.v.s, .slice x.v.A x.v.p.length x.v.c] 29)).heap.size = w.heap.size + 1 := by simp
  rw [hsz, Bool.false_or, List.nil_append] at hex
  have HEX := Aside0.mk hex
  clear hws hex hsz hx ht hT
  go_enter Tryd.func8, Tryd.ntmps8
  go_wp2_with (first | (go_at_call 16; refine HEX.out.mono ?_; rintro e w2 ⟨rfl, h2, k2⟩) | (go_at_call 17; refine h2.done.mono ?_; rintro e w3 ⟨rfl, hb3⟩))
  go_ret2
  exact ⟨rfl, hb3⟩
end Go.Proofs.YtkchpgjjkckfbaaDoor
