/- The law ValueReads: any bytes, from any place on, are read as the value that the document reads, or refused, and what was handed in stays; whatever the input; the tables of strconv, math/bits and unicode/utf8 lie as the program's text lays them (the card ties them to the pruned copy of the project that TURN made). -/
import Derived.Test.YthafbdkjpgeopaaDoorLReads
import Derived.Test.YthafbdkjpgeopaaDoorCapB
import Derived.Test.YthafbdkjpgeopaaDoorCardU
set_option linter.unusedVariables false
set_option linter.unusedSimpArgs false
namespace Go.Proofs.YthafbdkjpgeopaaDoor
open Go.Joins Go.ChangeShapes Go.WideShapes Go.ChangeAt Go.RowKit Go.Deep
namespace ofValueReads

theorem params_ok : ∀ t ∈ Tryd.f18.params.toList, Tryd.prog.readableRec t = true ∧ t < Tryd.prog.types.size := by
  rw [Tryd.params18]
  intro t ht
  simp only [List.mem_cons, List.mem_nil_iff, or_false, List.toList_toArray] at ht
  rcases ht with rfl | rfl <;> exact ⟨by kernel_rfl, of_decide_eq_true (by kernel_rfl)⟩

theorem contract (H : Type) (enc : TypeId × Value → H) (W : World) (base : Nat) (args : Array Value) (ds gs : List (DataW H)) (before : List MemPlace)
    (hval : ∀ (j : Nat) t v, Tryd.f18.params[j]? = some t → args[j]? = some v → Value.okWide Tryd.prog W .any base t v)
    (hW : DataW.Whole enc Tryd.prog Tryd.f18.params.toList Rows.valueReadsSpec.vars false W args.toList ds gs before) (hL : laidMetH Tryd.prog Rows.valueReadsRow.laid W) (hk : (DataW.weightsEach Tryd.prog (Tryd.f18.params.toList ++ (OpenSpec.ofChange Rows.valueReadsSpec).bare.plain.varTypes Tryd.prog) (ds ++ gs)).all (· ≤ reachBytes) = true) :
    Calls Tryd.prog 18 args W fun e W' => ∃ v, e = .returned v ∧ Rows.valueReadsSpec.post enc Tryd.prog Tryd.f18 false true false false W args v W' := by
  have hW' := hW
  obtain ⟨p, q, hA0, hV, rfl, hfz, hnd⟩ := hW
  have hA : DataW.TrodAll enc Tryd.prog W 0 (fun _ => true) true Tryd.f18.params.toList args.toList ds p := hA0
  rw [Tryd.params18] at hA hval hk
  obtain ⟨v0, vs0, d0, ds0, p0, q0, hargs, rfl, rfl, h0, r0⟩ := trodAll_cons hA
  obtain ⟨v1, vs1, d1, ds1, p1, q1, hargs1, rfl, rfl, h1, r1⟩ := trodAll_cons r0
  obtain ⟨rfl, rfl, rfl⟩ := trodAll_nil r1
  obtain rfl : args = #[v0, v1] := by cases args; simp_all
  obtain ⟨rfl, rfl⟩ := trodVars_none hV
  have hkf := each_first hk
  obtain ⟨A0, bs0, c0, rfl, hr0, hbt0, hc0, hl0⟩ := openB (hval 0 30 _ rfl rfl) h0
  obtain ⟨z1, rfl, hz1⟩ := openNum Tryd.underlying3 (hval 1 3 _ rfl rfl) h1
  refine (reads_walk A0 bs0 c0 z1 W hr0 hbt0 hc0 (hl0 hkf) (tabs_of hL rfl) (utabs_of hL (by kernel_rfl) (.tail _ (.tail _ (.tail _ (.tail _ (.head _))))) (.tail _ (.tail _ (.tail _ (.head _)))))).mono fun e W' ⟨he, hB⟩ => ⟨_, he, law_end laidOutP rfl params_ok (tb := 4) (by kernel_rfl) Tryd.underlying4 hW' hB rfl rfl rfl⟩

theorem laid_met (os : Os) : laidMet Tryd.prog Rows.valueReadsRow.laid ((laidWorldU os).forCall (fun _ _ => 0) ⟨#[], #[.slice none 0 0, .int .i64 0], []⟩).memory :=
  laidMet_of_run' 8 (by kernel_rfl) (by kernel_rfl)
theorem reads (os : Os) {H : Type} (enc : TypeId × Value → H) : ∃ places, DataW.whole enc Tryd.prog ((laidWorldU os).forCall (fun _ _ => 0) ⟨#[], #[.slice none 0 0, .int .i64 0], []⟩).memory Tryd.f18.params.toList Rows.valueReadsSpec.vars false (#[.slice none 0 0, .int .i64 0] : Array Value).toList 8 = some ([.nil, .lit (.int .i64 0)], [], places) :=
  ⟨[], by kernel_rfl⟩
set_option maxRecDepth 100000 in
theorem lifted (os : Os) (started : os.Started) (H : Type) (enc : TypeId × Value → H) (F : Stop.Interp) :
    ReturnsInHanded {} Tryd.checked os 18 .any ((OpenSpec.ofChange Rows.valueReadsSpec).preRow enc Tryd.prog Tryd.f18 Rows.valueReadsRow.domain false Rows.valueReadsRow.laid) (((OpenSpec.ofChange Rows.valueReadsSpec).at F).post enc Tryd.prog Tryd.f18 false true false false) := by
  obtain ⟨places, hx⟩ := reads os enc
  refine returnsInHanded_of_row (C := Tryd.checked) (s := (OpenSpec.ofChange Rows.valueReadsSpec)) own started (by kernel_rfl) Tryd.func18
    (witness_row_at (enc := enc) (C := Tryd.checked) false (laidWorldU os) #[.slice none 0 0, .int .i64 0] rfl (by kernel_rfl) (by kernel_rfl) (by kernel_rfl)
      (OpenSpec.preRow_of_cond 8 hx (by kernel_rfl) (fun k hk => by cases hk) (by kernel_rfl) (laid_met os))) ?_
  intro W base args ds gs before hval hW _ _ hwt hL _ _
  exact contract H enc W base args ds gs before hval hW hL hwt

theorem said : Rows.ValueReadsSaid :=
  OpenClaim.holds_of_cond 18 Tryd.f18 rfl rfl rfl rfl rfl rfl rfl ⟨rfl, rfl, rfl, rfl, rfl⟩ rfl rfl rfl rfl rfl (by kernel_rfl) Tryd.func18 (by kernel_rfl)
    (of_decide_eq_true (by kernel_rfl)) (by unfold Func.isWrapper; first | (rw [if_pos (by decide +kernel)]; kernel_rfl) | (rw [if_neg (by decide +kernel)]; exact ⟨rfl, rfl⟩))
    (fun os started H enc _ F => by rw [OpenClaim.pre_eq_preRow]; exact lifted os started H enc F)

theorem plain (f : FuncId) (fn : Func) (hf : Tryd.pinned.checked.prog.funcNamed "portolan/portolanlaw02.ValueReads" = some f) (hfn : Tryd.pinned.checked.prog.funcs[f]? = some fn) :
    false = Tryd.pinned.checked.prog.looks [] ∧ ∀ (j : Nat) t, fn.params[j]? = some t → Tryd.pinned.checked.prog.wantsStandIn t = false := by
  obtain rfl : f = 18 := Option.some.inj ((show Tryd.prog.funcNamed "portolan/portolanlaw02.ValueReads" = some 18 by kernel_rfl).symm.trans hf) |>.symm
  obtain rfl : fn = Tryd.f18 := (Option.some.inj (Tryd.func18.symm.trans hfn)).symm
  refine ⟨by kernel_rfl, fun j t ht => ?_⟩
  rw [Tryd.params18] at ht
  have ht2 := Array.mem_of_getElem? ht
  simp only [List.mem_cons, List.mem_nil_iff, or_false, List.mem_toArray] at ht2
  rcases ht2 with rfl | rfl
  · exact (show Tryd.prog.wantsStandIn 30 = false by kernel_rfl)
  · exact (show Tryd.prog.wantsStandIn 3 = false by kernel_rfl)

/-- The card. -/
theorem card : Rows.ValueReadsCardSaid :=
  Claim7.holds_tied_plain_at .later [] _ _ _ _ said (fun _ h => by cases h) (by kernel_rfl) (fun _ h => by cases h) valueReads_row_tie rfl ⟨rfl, rfl⟩ (by kernel_rfl) rfl plain (by kernel_rfl)
end ofValueReads
end Go.Proofs.YthafbdkjpgeopaaDoor
