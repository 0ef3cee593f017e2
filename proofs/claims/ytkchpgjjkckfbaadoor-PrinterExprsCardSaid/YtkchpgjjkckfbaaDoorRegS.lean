/- A region that draws its order, walked operation by operation in one order that stands for all: the steps, said by an operation's number. -/
import Derived.WalkKit
import Derived.Deep.RegionHeld3
import Derived.KernelRfl
set_option linter.unusedVariables false
namespace Go.Proofs.YtkchpgjjkckfbaaDoor
open Go.RowKit

def nthOp : List Oper → Nat → Option Oper
  | [], _ => none
  | o :: _, 0 => some o
  | _ :: l, n + 1 => nthOp l n
theorem nthOp_eq : ∀ (l : List Oper) (i : Nat), nthOp l i = l[i]?
  | [], i => by simp [nthOp]
  | o :: l, 0 => by simp [nthOp]
  | o :: l, n + 1 => by simp [nthOp, nthOp_eq l n]
section
variable {P : Program} {ops : Array Oper} {Q : Exit → Act → World → Prop} {S : World → Prop} {md : Region.Mode}
theorem nthOp_at {i : Nat} {oi : Oper} (h : nthOp ops.toList i = some oi) : ops[i]? = some oi := by
  rw [nthOp_eq] at h
  simpa using h
/-- An operation that is wanted, and yields the same in whatever world that meets S, comes first. -/
theorem take_in {i : Nat} {oi : Oper} {v : Value} {fuel : Nat} {listed : Array Bool} {a : Act} {w : World} (hi : nthOp ops.toList i = some oi)
    (hs : Region.noSelect ops = true) (hf : Region.free md ops listed i = true) (hr : (Region.ready md ops listed).contains i = true)
    (hQ : ∀ c a w, Q (.panic c) (a.put oi.dst v) w → Q (.panic c) a w) (hw : Region.wanted oi (yielded ops a.tmps) = true)
    (hy : ∀ w, S w → (execOp a.eval oi).run P w = .ok (.value v) w) (hS : S w)
    (h : wpAnyH P md ops Q S fuel (listed.setIfInBounds i true) (a.put oi.dst v) w) : wpAnyH P md ops Q S (fuel + 1) listed a w :=
  wpAnyH_take (nthOp_at hi) hs hf hr hQ (Or.inl ⟨hw, hy⟩) hS h
/-- One that is not wanted comes first. -/
theorem take_out {i : Nat} {oi : Oper} {fuel : Nat} {listed : Array Bool} {a : Act} {w : World} (hi : nthOp ops.toList i = some oi)
    (hs : Region.noSelect ops = true) (hf : Region.free md ops listed i = true) (hr : (Region.ready md ops listed).contains i = true)
    (hQ : ∀ c a w, Q (.panic c) (a.put oi.dst undef) w → Q (.panic c) a w) (hw : Region.wanted oi (yielded ops a.tmps) = false) (hS : S w)
    (h : wpAnyH P md ops Q S fuel (listed.setIfInBounds i true) (a.put oi.dst undef) w) : wpAnyH P md ops Q S (fuel + 1) listed a w :=
  wpAnyH_take (nthOp_at hi) hs hf hr hQ (Or.inr ⟨hw, rfl⟩) hS h
/-- The one that alone may come is run. -/
theorem one_step {i : Nat} {oi : Oper} {fuel : Nat} {listed : Array Bool} {a : Act} {w : World} (hr : Region.ready md ops listed = [i]) (hi : nthOp ops.toList i = some oi)
    (h : ∀ K' : Act → World → Prop, Shut (∀ a w, S w → (S w → wpAnyH P md ops Q S fuel (listed.setIfInBounds i true) a w) → K' a w) → if Region.wanted oi (yielded ops a.tmps) = true then Oper.wp P oi a w K' Q else K' (a.put oi.dst undef) w) :
    wpAnyH P md ops Q S (fuel + 1) listed a w :=
  wpAnyH_ready hr (by simp) (AllReadyH.cons (nthOp_at hi) h AllReadyH.nil)
end
/-- More may be asked of the worlds from here on. -/
theorem narrow {P : Program} {ops : Array Oper} {Q : Exit → Act → World → Prop} {S S' : World → Prop} {md : Region.Mode} (h : ∀ w, S' w → S w) :
    ∀ (fuel : Nat) (listed : Array Bool) (a : Act) (w : World), wpAnyH P md ops Q S' fuel listed a w → wpAnyH P md ops Q S fuel listed a w
  | 0, _, _, _, H => H
  | fuel + 1, _, _, _, H => ⟨H.1, fun i hi => wpOp_mono (fun a' w' hh => ⟨h w' hh.1, narrow h fuel _ a' w' hh.2⟩) (H.2 i hi)⟩
end Go.Proofs.YtkchpgjjkckfbaaDoor
