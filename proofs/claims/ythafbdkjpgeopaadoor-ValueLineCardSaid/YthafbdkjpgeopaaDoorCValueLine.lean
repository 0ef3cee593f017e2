/- The law ValueLine: of any three things, portolan's Order is a line, and alike just where the bytes are, whatever the input; the tables of strconv and math/bits lie as the program's text lays them (the card ties them to the pruned copy of the project that TURN made). -/
import Derived.Test.YthafbdkjpgeopaaDoorLLine
import Derived.Test.YthafbdkjpgeopaaDoorCardW
set_option linter.unusedVariables false
set_option linter.unusedSimpArgs false
namespace Go.Proofs.YthafbdkjpgeopaaDoor
open Go.Joins Go.ChangeShapes Go.WideShapes Go.ChangeAt Go.RowKit Go.Deep
namespace ofValueLine

theorem params_ok : ∀ t ∈ Tryd.f3.params.toList, Tryd.prog.readableRec t = true ∧ t < Tryd.prog.types.size := by
  rw [Tryd.params3]
  intro t ht
  simp only [List.mem_cons, List.mem_nil_iff, or_false, List.toList_toArray] at ht
  have ht : t = 25 := by simpa using ht
  subst ht
  exact ⟨by kernel_rfl, of_decide_eq_true (by kernel_rfl)⟩

theorem contract (H : Type) (enc : TypeId × Value → H) (W : World) (base : Nat) (args : Array Value) (ds gs : List (DataW H)) (before : List MemPlace)
    (hval : ∀ (j : Nat) t v, Tryd.f3.params[j]? = some t → args[j]? = some v → Value.okWide Tryd.prog W .any base t v)
    (hW : DataW.Whole enc Tryd.prog Tryd.f3.params.toList Rows.valueLineSpec.vars false W args.toList ds gs before) (hL : laidMetH Tryd.prog Rows.valueLineRow.laid W) :
    Calls Tryd.prog 3 args W fun e W' => ∃ v, e = .returned v ∧ Rows.valueLineSpec.post enc Tryd.prog Tryd.f3 false true false false W args v W' := by
  have hW' := hW
  obtain ⟨p, q, hA0, hV, rfl, hfz, hnd⟩ := hW
  have hA : DataW.TrodAll enc Tryd.prog W 0 (fun _ => true) true Tryd.f3.params.toList args.toList ds p := hA0
  rw [Tryd.params3] at hA hval
  obtain ⟨v0, vs0, d0, ds0, p0, q0, hargs, rfl, rfl, h0, r0⟩ := trodAll_cons hA
  obtain ⟨v1, vs1, d1, ds1, p1, q1, rfl, rfl, rfl, h1, r1⟩ := trodAll_cons r0
  obtain ⟨v2, vs2, d2, ds2, p2, q2, rfl, rfl, rfl, h2, r2⟩ := trodAll_cons r1
  obtain ⟨rfl, rfl, rfl⟩ := trodAll_nil r2
  obtain rfl : args = #[v0, v1, v2] := by cases args; simp_all
  obtain ⟨rfl, rfl⟩ := trodVars_none hV
  obtain ⟨k0, n0, b0, s0, A0, l0, c0, rfl, hr0, hn0, hs0⟩ := openVal (hval 0 25 _ rfl rfl) h0
  obtain ⟨k1, n1, b1, s1, A1, l1, c1, rfl, hr1, hn1, hs1⟩ := openVal (hval 1 25 _ rfl rfl) h1
  obtain ⟨k2, n2, b2, s2, A2, l2, c2, rfl, hr2, hn2, hs2⟩ := openVal (hval 2 25 _ rfl rfl) h2
  refine (line_walk k0 n0 b0 s0 A0 l0 c0 k1 n1 b1 s1 A1 l1 c1 k2 n2 b2 s2 A2 l2 c2 W hr0 hr1 hr2 (tabs_of hL rfl) hn0 hn1).mono fun e W' ⟨he, hB⟩ => ⟨_, he, law_end laidOutP rfl params_ok (tb := 4) (by kernel_rfl) Tryd.underlying4 hW' hB rfl rfl rfl⟩

theorem laid_met (os : Os) : laidMet Tryd.prog Rows.valueLineRow.laid ((laidWorld os).forCall (fun _ _ => 0) ⟨#[], #[zeroV, zeroV, zeroV], []⟩).memory :=
  laidMet_of_run' 8 (by kernel_rfl) (by kernel_rfl)
theorem reads (os : Os) {H : Type} (enc : TypeId × Value → H) : ∃ places, DataW.whole enc Tryd.prog ((laidWorld os).forCall (fun _ _ => 0) ⟨#[], #[zeroV, zeroV, zeroV], []⟩).memory Tryd.f3.params.toList Rows.valueLineSpec.vars false (#[zeroV, zeroV, zeroV] : Array Value).toList 8 = some ([.agg [.lit (.int .i64 0), .lit (.bool false), .lit (.int .i64 0), .lit (.string []), .nil], .agg [.lit (.int .i64 0), .lit (.bool false), .lit (.int .i64 0), .lit (.string []), .nil], .agg [.lit (.int .i64 0), .lit (.bool false), .lit (.int .i64 0), .lit (.string []), .nil]], [], places) :=
  ⟨[], by kernel_rfl⟩
set_option maxRecDepth 100000 in
theorem lifted (os : Os) (started : os.Started) (H : Type) (enc : TypeId × Value → H) (F : Stop.Interp) :
    ReturnsInHanded {} Tryd.checked os 3 .any ((OpenSpec.ofChange Rows.valueLineSpec).preRow enc Tryd.prog Tryd.f3 Rows.valueLineRow.domain false Rows.valueLineRow.laid) (((OpenSpec.ofChange Rows.valueLineSpec).at F).post enc Tryd.prog Tryd.f3 false true false false) := by
  obtain ⟨places, hx⟩ := reads os enc
  refine returnsInHanded_of_row (C := Tryd.checked) (s := (OpenSpec.ofChange Rows.valueLineSpec)) own started (by kernel_rfl) Tryd.func3
    (witness_row_at (enc := enc) (C := Tryd.checked) false (laidWorld os) #[zeroV, zeroV, zeroV] rfl (by kernel_rfl) (by kernel_rfl) (by kernel_rfl)
      (OpenSpec.preRow_of_cond 8 hx (by kernel_rfl) (fun k hk => by cases hk) (by kernel_rfl) (laid_met os))) ?_
  intro W base args ds gs before hval hW _ _ _ hL _ _
  exact contract H enc W base args ds gs before hval hW hL

theorem said : Rows.ValueLineSaid :=
  OpenClaim.holds_of_cond 3 Tryd.f3 rfl rfl rfl rfl rfl rfl rfl ⟨rfl, rfl, rfl, rfl, rfl⟩ rfl rfl rfl rfl rfl (by kernel_rfl) Tryd.func3 (by kernel_rfl)
    (of_decide_eq_true (by kernel_rfl)) (by unfold Func.isWrapper; first | (rw [if_pos (by decide +kernel)]; kernel_rfl) | (rw [if_neg (by decide +kernel)]; exact ⟨rfl, rfl⟩))
    (fun os started H enc _ F => by rw [OpenClaim.pre_eq_preRow]; exact lifted os started H enc F)

theorem plain (f : FuncId) (fn : Func) (hf : Tryd.pinned.checked.prog.funcNamed "portolan/portolanlaw02.ValueLine" = some f) (hfn : Tryd.pinned.checked.prog.funcs[f]? = some fn) :
    false = Tryd.pinned.checked.prog.looks [] ∧ ∀ (j : Nat) t, fn.params[j]? = some t → Tryd.pinned.checked.prog.wantsStandIn t = false := by
  obtain rfl : f = 3 := Option.some.inj ((show Tryd.prog.funcNamed "portolan/portolanlaw02.ValueLine" = some 3 by kernel_rfl).symm.trans hf) |>.symm
  obtain rfl : fn = Tryd.f3 := (Option.some.inj (Tryd.func3.symm.trans hfn)).symm
  refine ⟨by kernel_rfl, fun j t ht => ?_⟩
  rw [Tryd.params3] at ht
  have ht2 := Array.mem_of_getElem? ht
  obtain rfl : t = 25 := by simpa using ht2
  exact (show Tryd.prog.wantsStandIn 25 = false by kernel_rfl)

/-- The card. -/
theorem card : Rows.ValueLineCardSaid :=
  Claim7.holds_tied_plain_at .later [] _ _ _ _ said (fun _ h => by cases h) (by kernel_rfl) (fun _ h => by cases h) valueLine_row_tie rfl ⟨rfl, rfl⟩ (by kernel_rfl) rfl plain (by kernel_rfl)
end ofValueLine
end Go.Proofs.YthafbdkjpgeopaaDoor
