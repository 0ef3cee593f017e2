/- Regions in which two operations may come first; worlds that get a name; rows of bytes that turn. -/
import Derived.Test.YthafbdkjpgeopaaDoorCopied
import Derived.Test.YthafbdkjpgeopaaDoorShoA
import Derived.Test.YthafbdkjpgeopaaDoorLHashes
import Derived.Test.YthafbdkjpgeopaaDoorRegS
import Derived.Deep.Cut
set_option linter.unusedVariables false
set_option linter.unusedSimpArgs false
namespace Go.Proofs.YthafbdkjpgeopaaDoor
open Go.RowKit

theorem of_if {c : Prop} [Decidable c] {A B : Prop} (hc : c) (h : A) : if c then A else B := by rw [if_pos hc]; exact h
/-- The world is given a name. -/
theorem name_world {P : Program} {md : Region.Mode} {ops : Array Oper} {Q : Exit → Act → World → Prop} {S : World → Prop} {fuel : Nat} {listed : Array Bool} {a : Act} {F : World → Prop} {W0 : World} (h0 : F W0)
    (h : ∀ W, F W → wpAnyH P md ops Q S fuel listed a W) : wpAnyH P md ops Q S fuel listed a W0 := h W0 h0
/-- Either of two may come. -/
theorem two_step {P : Program} {ops : Array Oper} {Q : Exit → Act → World → Prop} {S : World → Prop} {md : Region.Mode} {i j : Nat} {oi oj : Oper} {fuel : Nat} {listed : Array Bool} {a : Act} {w : World} (hr : Region.ready md ops listed = [i, j]) (hi : nthOp ops.toList i = some oi) (hj : nthOp ops.toList j = some oj)
    (h : ∀ K' : Act → World → Prop, Shut (∀ a w, S w → (S w → wpAnyH P md ops Q S fuel (listed.setIfInBounds i true) a w) → K' a w) → if Region.wanted oi (yielded ops a.tmps) = true then Oper.wp P oi a w K' Q else K' (a.put oi.dst undef) w)
    (h2 : ∀ K' : Act → World → Prop, Shut (∀ a w, S w → (S w → wpAnyH P md ops Q S fuel (listed.setIfInBounds j true) a w) → K' a w) → if Region.wanted oj (yielded ops a.tmps) = true then Oper.wp P oj a w K' Q else K' (a.put oj.dst undef) w) :
    wpAnyH P md ops Q S (fuel + 1) listed a w :=
  wpAnyH_ready hr (by simp) (AllReadyH.cons (nthOp_at hi) h (AllReadyH.cons (nthOp_at hj) h2 AllReadyH.nil))
theorem allU8_set {xs : List Value} (h : AllU8 xs) (i : Nat) (z : Int) : AllU8 (xs.set i (.int .u8 z)) := by
  unfold AllU8 at *
  rw [List.map_set, List.map_set]
  exact congrArg (fun l => l.set i (.int .u8 z)) h
theorem allU8_at {xs : List Value} (h : AllU8 xs) (i : Nat) (hi : i < xs.length) : ∃ y : Int, xs[i]? = some (.int .u8 y) := by
  unfold AllU8 at h
  refine ⟨intOf xs[i], ?_⟩
  have e := congrArg (fun l => l[i]?) h
  simp only [List.getElem?_map, List.getElem?_eq_getElem hi, Option.map_some] at e
  rw [List.getElem?_eq_getElem hi]
  exact e
theorem below_alloc {w : World} (o : Obj) : Below w.heap.size w (w.alloc o) := (Below.refl _ _).alloc (Nat.le_refl _) _
/-- Two values in a row that was just laid. -/
theorem reads_two (Y : World) (a b : V5) (ha : ReadsI Y a.A a.p) (hb : ReadsI Y b.A b.p) (hna : -9223372036854775808 ≤ a.n ∧ a.n ≤ 9223372036854775807) (hnb : -9223372036854775808 ≤ b.n ∧ b.n ≤ 9223372036854775807) :
    ReadsV (Y.alloc (.cells #[.int .i64 a.k, .bool a.b, .int .i64 a.n, .string a.s, .slice a.A a.p.length a.c, .int .i64 b.k, .bool b.b, .int .i64 b.n, .string b.s, .slice b.A b.p.length b.c] 25)) (some ⟨Y.heap.size, 0, none⟩) [a, b] where
  len := by simp
  row := fun j hj => by
    have hh := heap_alloc_new Y (.cells #[.int .i64 a.k, .bool a.b, .int .i64 a.n, .string a.s, .slice a.A a.p.length a.c, .int .i64 b.k, .bool b.b, .int .i64 b.n, .string b.s, .slice b.A b.p.length b.c] 25)
    have hc : ∀ i, (Y.alloc (.cells #[.int .i64 a.k, .bool a.b, .int .i64 a.n, .string a.s, .slice a.A a.p.length a.c, .int .i64 b.k, .bool b.b, .int .i64 b.n, .string b.s, .slice b.A b.p.length b.c] 25)).cell? ⟨Y.heap.size, i, none⟩ = (#[.int .i64 a.k, .bool a.b, .int .i64 a.n, .string a.s, .slice a.A a.p.length a.c, .int .i64 b.k, .bool b.b, .int .i64 b.n, .string b.s, .slice b.A b.p.length b.c] : Array Value)[i]? := fun i => by
      unfold World.cell?
      rw [hh]
      rfl
    refine ⟨_, rfl, ?_⟩
    match j, hj with
    | 0, _ => exact ⟨by simp [Addr.add], by simp [Addr.add], by first | (simp [Addr.add]; done) | simpa [Addr.add] using hc 0, by first | (simp [Addr.add]; done) | simpa [Addr.add] using hc 1, by first | (simp [Addr.add]; done) | simpa [Addr.add] using hc 2, by first | (simp [Addr.add]; done) | simpa [Addr.add] using hc 3, by first | (simp [Addr.add]; done) | simpa [Addr.add] using hc 4⟩
    | 1, _ => exact ⟨by simp [Addr.add], by simp [Addr.add], by first | (simp [Addr.add]; done) | simpa [Addr.add] using hc 5, by first | (simp [Addr.add]; done) | simpa [Addr.add] using hc 6, by first | (simp [Addr.add]; done) | simpa [Addr.add] using hc 7, by first | (simp [Addr.add]; done) | simpa [Addr.add] using hc 8, by first | (simp [Addr.add]; done) | simpa [Addr.add] using hc 9⟩
  path := fun v hv => by
    simp only [List.mem_cons, List.mem_nil_iff, or_false] at hv
    rcases hv with rfl | rfl
    · exact ha.below (below_alloc _)
    · exact hb.below (below_alloc _)
  num := fun v hv => by
    simp only [List.mem_cons, List.mem_nil_iff, or_false] at hv
    rcases hv with rfl | rfl
    · exact hna
    · exact hnb
end Go.Proofs.YthafbdkjpgeopaaDoor
