/- Words for the laws' rows: what came in is opened; what stays is told. No walk stands here. -/
import Derived.Test.YtkchpgjjkckfbaaDoorVal0
import Derived.Test.YtkchpgjjkckfbaaDoorRows
import Derived.ProofKit
import Derived.OpenShut
import Derived.Carry
import Derived.Lib.SmallJoins
import Derived.Deep.Slices
import Derived.Deep.Fields
import Derived.ChangeSame
set_option linter.unusedVariables false
set_option linter.unusedSimpArgs false
namespace Go.Proofs.YtkchpgjjkckfbaaDoor
open Go.Joins Go.ChangeShapes Go.WideShapes Go.ChangeAt Go.RowKit Go.Deep
section
variable {H : Type} {enc : TypeId × Value → H} {P : Program} {w : World} {base : Nat} {spare : Nat → Bool} {held : Bool}
theorem open_agg5 {r : Reach} {b0 : Nat} {t : TypeId} {f0 f1 f2 f3 f4 : Field} {v : Value} {d : DataW H} {p : List MemPlace} (hs : P.underlying t = some (.struct #[f0, f1, f2, f3, f4])) (hone : oneCellFields P #[f0, f1, f2, f3, f4] = true) (hC : P.cellsOf t = 5)
    (hv : Value.okWide P w r b0 t v) (h : DataW.Trod enc P w base spare held t v d p) :
    ∃ (v0 v1 v2 v3 v4 : Value) (y0 y1 y2 y3 y4 : DataW H × List MemPlace) (n : Nat), v = .agg #[v0, v1, v2, v3, v4] ∧ d = .agg [y0.1, y1.1, y2.1, y3.1, y4.1] ∧ p = y0.2 ++ (y1.2 ++ (y2.2 ++ (y3.2 ++ y4.2))) ∧
      DataW.trod enc P w base spare held n f0.type [v0] = some y0 ∧ DataW.trod enc P w base spare held n f1.type [v1] = some y1 ∧ DataW.trod enc P w base spare held n f2.type [v2] = some y2 ∧ DataW.trod enc P w base spare held n f3.type [v3] = some y3 ∧ DataW.trod enc P w base spare held n f4.type [v4] = some y4 := by
  obtain ⟨cs, rfl, hsz⟩ := okWide_struct hs hv
  obtain ⟨l⟩ := cs
  match l, hsz.trans hC with
  | [c0, c1, c2, c3, c4], _ =>
    obtain ⟨fuel, hf⟩ := h
    obtain ⟨xs, n, _, hx, _, hlen, hg⟩ := DataW.trod_struct hs hf
    obtain ⟨o0, k0⟩ := hone_of hone 0 f0 rfl
    obtain ⟨o1, k1⟩ := hone_of hone 1 f1 rfl
    obtain ⟨o2, k2⟩ := hone_of hone 2 f2 rfl
    obtain ⟨o3, k3⟩ := hone_of hone 3 f3 rfl
    obtain ⟨o4, k4⟩ := hone_of hone 4 f4 rfl
    match xs, hlen with
    | [y0, y1, y2, y3, y4], _ =>
      simp only [Prod.mk.injEq] at hx
      exact ⟨c0, c1, c2, c3, c4, y0, y1, y2, y3, y4, n, rfl, by simpa using hx.1, by simpa using hx.2, by simpa [Value.cells, o0, k0] using hg 0 f0 rfl, by simpa [Value.cells, o1, k1] using hg 1 f1 rfl, by simpa [Value.cells, o2, k2] using hg 2 f2 rfl, by simpa [Value.cells, o3, k3] using hg 3 f3 rfl, by simpa [Value.cells, o4, k4] using hg 4 f4 rfl⟩


/-- All arguments read as they did, where nothing that lay there has turned. -/
theorem trodAll_below (hl : laidOutB P = true) {W W' : World} (hb : Below W.heap.size W W') :
    ∀ (ts : List TypeId) (vs : List Value) (ds : List (DataW H)) (ps : List MemPlace), (∀ t ∈ ts, P.readableRec t = true ∧ t < P.types.size) → (∀ x ∈ ps, x.block < W.heap.size) →
      DataW.TrodAll enc P W 0 (fun _ => true) true ts vs ds ps → DataW.TrodAll enc P W' 0 (fun b => decide (b < W.heap.size)) true ts vs ds ps
  | [], vs, ds, ps, _, _, h => by
    obtain ⟨rfl, rfl, rfl⟩ := trodAll_nil h
    exact trodAll_mk0
  | t :: ts, vs, ds, ps, hr, hlt, h => by
    obtain ⟨v, vs', d, ds', p, q, rfl, rfl, rfl, h1, h2⟩ := trodAll_cons h
    have hrt := hr t (by simp)
    exact trodAll_cons_mk (Below.trod hl hrt.1 hrt.2 h1 hb (fun x hx => hlt x (by simp [hx])))
      (trodAll_below hl hb ts vs' ds' q (fun u hu => hr u (by simp [hu])) (fun x hx => hlt x (by simp [hx])) h2)

/-- A law's end: true, each argument as it was, nothing that lay there turned. -/
theorem law_end {f : Func} {s : ChangeSpec} {W W' : World} {args : Array Value} {ds gs : List (DataW H)} {before : List MemPlace} (hl : laidOutB P = true) (hv : s.vars = [])
    (hr : ∀ t ∈ f.params.toList, P.readableRec t = true ∧ t < P.types.size) {tb : TypeId} (hres : f.resultTypes = #[tb]) (hbool : P.underlying tb = some .bool)
    (hW : DataW.Whole enc P f.params.toList s.vars false W args.toList ds gs before) (hb : Below W.heap.size W W')
    (hs : (s.fn H (ds ++ gs)).results = [.lit (.bool true)]) (ha : (s.fn H (ds ++ gs)).args = ds) (hvs : (s.fn H (ds ++ gs)).vars = []) :
    s.post enc P f false true false false W args (.bool true) W' := by
  have hW' := hW
  obtain ⟨p, q, hA, hV, rfl, hfz, hnd⟩ := hW
  have hlt := hW'.lt
  refine ⟨ds, gs, p ++ q, [], p, [], hW', ?_, ?_, ?_, hb.frame _, fun h => by cases h⟩
  · rw [hs, hres]
    exact trodAll_mk1 (shut_bool hbool true)
  · rw [ha]
    exact trodAll_below hl hb _ _ _ _ hr (fun x hx => hlt x (by simp [hx])) hA
  · rw [hvs, hv]
    rfl

/-- A slice of numbers that came in is read as the walk wants it. -/
theorem readsI_open {t e : TypeId} {fuel : Nat} {c : Value} {x : DataW H × List MemPlace} {P : Program} {W : World} (ht : P.underlying t = some (.slice e)) (he : P.underlying e = some (.int .i64)) (hc : P.cellsOf e = 1)
    (h : DataW.trod enc P W 0 (fun _ => true) true fuel t [c] = some x) : ∃ (A : Option Addr) (p : List Int) (k : Nat), c = .slice A p.length k ∧ ReadsI W A p := by
  rcases open_ints ht he hc h with ⟨hcs, hx⟩ | ⟨a, len, cap, zs, hcs, _, hl, hm, hz, hx, hcell, hwz⟩
  · obtain rfl : c = .slice none 0 0 := by simpa using hcs
    exact ⟨none, [], 0, rfl, by decide, fun h => absurd h (by decide)⟩
  · obtain rfl : c = .slice (some a) len cap := by simpa using hcs
    have hzl : zs.length = cap := by simpa using hz
    refine ⟨some a, zs.take len, cap, by rw [List.length_take, Nat.min_eq_left (by omega)], ?_, fun hp => ⟨a, rfl, fun j hj => ?_⟩⟩
    · unfold maxLen at hm
      rw [List.length_take]
      omega
    · rw [List.length_take] at hj
      rw [hcell j (by omega)]
      simp [List.getD, List.getElem?_take, show j < len by omega]

/-- A value that came in, opened. -/
theorem openV {b0 : Nat} {tv tk tb ti ts tp : TypeId} {P : Program} {W : World} {f0 f1 f2 f3 f4 : Field} {v : Value} {d : DataW H} {p : List MemPlace}
    (hs : P.underlying tv = some (.struct #[f0, f1, f2, f3, f4])) (hone : oneCellFields P #[f0, f1, f2, f3, f4] = true) (hC : P.cellsOf tv = 5)
    (t0 : f0.type = tk) (t1 : f1.type = tb) (t2 : f2.type = ti) (t3 : f3.type = ts) (t4 : f4.type = tp)
    (u0 : P.underlying tk = some (.int .i64)) (u1 : P.underlying tb = some .bool) (u2 : P.underlying ti = some (.int .i64)) (u3 : P.underlying ts = some .string) (u4 : P.underlying tp = some (.slice ti)) (c2 : P.cellsOf ti = 1)
    (hv : Value.okWide P W .any b0 tv v) (h : DataW.Trod enc P W 0 (fun _ => true) true tv v d p) :
    ∃ (k n : Int) (b : Bool) (s : ByteArray) (A : Option Addr) (q : List Int) (c : Nat), v = .agg #[.int .i64 k, .bool b, .int .i64 n, .string s, .slice A q.length c] ∧ ReadsI W A q ∧
      (-9223372036854775808 ≤ n ∧ n ≤ 9223372036854775807) ∧ s.size ≤ 9223372036854775807 := by
  obtain ⟨v0, v1, v2, v3, v4, y0, y1, y2, y3, y4, m, rfl, rfl, rfl, h0, h1, h2, h3, h4⟩ := open_agg5 hs hone hC hv h
  rw [t0] at h0
  rw [t1] at h1
  rw [t2] at h2
  rw [t3] at h3
  rw [t4] at h4
  obtain ⟨k, e0, _, w0⟩ := DataW.trod_int u0 h0
  obtain ⟨b, e1, _⟩ := DataW.trod_bool u1 h1
  obtain ⟨n, e2, _, w2⟩ := DataW.trod_int u2 h2
  obtain ⟨s, e3, _, w3⟩ := DataW.trod_string u3 h3
  obtain ⟨A, q, c, rfl, hr⟩ := readsI_open u4 u2 c2 h4
  simp at e0 e1 e2 e3
  subst e0 e1 e2 e3
  refine ⟨k, n, b, s, A, q, c, rfl, hr, ?_, ?_⟩
  · simpa [Lit.wf, IntKind.min, IntKind.max, IntKind.signed, IntKind.bits] using w2
  · simpa [maxLen] using w3
end
end Go.Proofs.YtkchpgjjkckfbaaDoor
