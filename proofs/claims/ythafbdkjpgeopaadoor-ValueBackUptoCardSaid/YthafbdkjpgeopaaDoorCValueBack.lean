/- The law ValueBack: what was written is read as it was, whatever stands ahead and behind; cut off it is none; the arguments are of bulk at most 1048576 (the given second form); the tables of strconv and math/bits lie as the program's text lays them (the card ties them to the pruned copy of the project that TURN made). -/
import Derived.Test.YthafbdkjpgeopaaDoorLBack
import Derived.Test.YthafbdkjpgeopaaDoorCapB
set_option linter.unusedVariables false
set_option linter.unusedSimpArgs false
namespace Go.Proofs.YthafbdkjpgeopaaDoor
open Go.Joins Go.ChangeShapes Go.WideShapes Go.ChangeAt Go.RowKit Go.Deep
theorem bulk_lits {H : Type} (k : IntKind) : ∀ zs : List Int, Rows.uptoBulkAll (lits (H := H) k zs) = zs.length
  | [] => rfl
  | z :: r => by
    have h := bulk_lits (H := H) k r
    simp only [lits] at h
    simp only [lits, List.map_cons, Rows.uptoBulkAll, Rows.uptoBulk, List.length_cons, h]
    omega
theorem openBU {H : Type} {enc : TypeId × Value → H} {W : World} {b0 : Nat} {v : Value} {d : DataW H} {p : List MemPlace} (hv : Value.okWide Tryd.prog W .any b0 30 v)
    (h : DataW.Trod enc Tryd.prog W 0 (fun _ => true) true 30 v d p) :
    ∃ (A : Option Addr) (bs : List Int) (c : Nat), v = .slice A bs.length c ∧ ReadsB W A bs ∧ (∀ x ∈ bs, 0 ≤ x ∧ x < 256) ∧ bs.length ≤ Rows.uptoBulk d := by
  obtain ⟨A, len, cap, rfl⟩ := okWide_slice Tryd.underlying30 hv
  obtain ⟨fuel, hf⟩ := h
  rcases open_ints Tryd.underlying30 Tryd.underlying5 cells_u8 hf with ⟨hcs, hx⟩ | ⟨a, len', cap', zs, hcs, _, hl, hm, hz, hx, hcell, hwz⟩
  · simp [Value.cells] at hcs
    obtain ⟨rfl, rfl, rfl⟩ := hcs
    exact ⟨none, [], 0, rfl, ⟨by simp, fun h => absurd h (by simp)⟩, by simp, by simp⟩
  · simp [Value.cells] at hcs
    obtain ⟨rfl, rfl, rfl⟩ := hcs
    have hzl : zs.length = cap := by simpa using hz
    have hp : (zs.take len).length = len := by rw [List.length_take, Nat.min_eq_left (by omega)]
    refine ⟨some a, zs.take len, cap, by rw [hp], ⟨?_, fun hp => ⟨a, rfl, fun j hj => ?_⟩⟩, fun x hx => ?_, ?_⟩
    · unfold maxLen at hm
      omega
    · rw [List.length_take] at hj
      rw [hcell j (by omega)]
      simp [List.getD, List.getElem?_take, show j < len by omega]
    · have hw := hwz x (List.mem_of_mem_take hx)
      simp [Lit.wf, IntKind.min, IntKind.max, IntKind.signed, IntKind.bits] at hw
      omega
    · simp only [Prod.mk.injEq] at hx
      rw [hx.1, Rows.uptoBulk, bulk_lits]
      omega
namespace ofValueBack

theorem params_ok : ∀ t ∈ Tryd.f12.params.toList, Tryd.prog.readableRec t = true ∧ t < Tryd.prog.types.size := by
  rw [Tryd.params12]
  intro t ht
  simp only [List.mem_cons, List.mem_nil_iff, or_false, List.toList_toArray] at ht
  rcases ht with rfl | rfl | rfl | rfl <;> exact ⟨by kernel_rfl, of_decide_eq_true (by kernel_rfl)⟩

theorem contract (H : Type) (enc : TypeId × Value → H) (W : World) (base : Nat) (args : Array Value) (ds gs : List (DataW H)) (before : List MemPlace)
    (hval : ∀ (j : Nat) t v, Tryd.f12.params[j]? = some t → args[j]? = some v → Value.okWide Tryd.prog W .any base t v)
    (hW : DataW.Whole enc Tryd.prog Tryd.f12.params.toList Rows.valueBackSpec.vars false W args.toList ds gs before) (hL : laidMetH Tryd.prog Rows.valueBackUptoRow.laid W) (hk : Rows.uptoSmall H (ds ++ gs) = true) :
    Calls Tryd.prog 12 args W fun e W' => ∃ v, e = .returned v ∧ Rows.valueBackSpec.post enc Tryd.prog Tryd.f12 false true false false W args v W' := by
  have hW' := hW
  obtain ⟨p, q, hA0, hV, rfl, hfz, hnd⟩ := hW
  have hA : DataW.TrodAll enc Tryd.prog W 0 (fun _ => true) true Tryd.f12.params.toList args.toList ds p := hA0
  rw [Tryd.params12] at hA hval
  obtain ⟨v0, vs0, d0, ds0, p0, q0, hargs, rfl, rfl, h0, r0⟩ := trodAll_cons hA
  obtain ⟨v1, vs1, d1, ds1, p1, q1, hargs1, rfl, rfl, h1, r1⟩ := trodAll_cons r0
  obtain ⟨v2, vs2, d2, ds2, p2, q2, hargs2, rfl, rfl, h2, r2⟩ := trodAll_cons r1
  obtain ⟨v3, vs3, d3, ds3, p3, q3, hargs3, rfl, rfl, h3, r3⟩ := trodAll_cons r2
  obtain ⟨rfl, rfl, rfl⟩ := trodAll_nil r3
  obtain rfl : args = #[v0, v1, v2, v3] := by cases args; simp_all
  obtain ⟨rfl, rfl⟩ := trodVars_none hV
  have hkk : Rows.uptoBulkAll [d0, d1, d2, d3] ≤ 1048576 := of_decide_eq_true hk
  simp only [Rows.uptoBulkAll] at hkk
  obtain ⟨k0, n0, b0, s0, A0, l0, c0, rfl, hr0, hn0, hs0⟩ := openVal (hval 0 25 _ rfl rfl) h0
  obtain ⟨A1, bs1, c1, rfl, hr1, hbt1, hl1⟩ := openBU (hval 1 30 _ rfl rfl) h1
  obtain ⟨A2, bs2, c2, rfl, hr2, hbt2, hl2⟩ := openBU (hval 2 30 _ rfl rfl) h2
  obtain ⟨z3, rfl, hz3⟩ := openNum Tryd.underlying37 (hval 3 37 _ rfl rfl) h3
  have hzb : 0 ≤ z3 ∧ z3 < 65536 := by
    simp [Lit.wf, IntKind.min, IntKind.max, IntKind.signed, IntKind.bits] at hz3
    omega
  obtain ⟨y3, rfl⟩ := Int.eq_ofNat_of_zero_le hzb.1
  refine (back_walk k0 n0 b0 s0 A0 l0 c0 A1 bs1 c1 A2 bs2 c2 y3 W hr0 hn0 hr1 hbt1 (by omega) hr2 hbt2 (by omega) (by omega) (tabs_of hL rfl)).mono fun e W' ⟨he, hB⟩ => ⟨_, he, law_end laidOutP rfl params_ok (tb := 4) (by kernel_rfl) Tryd.underlying4 hW' hB rfl rfl rfl⟩

theorem laid_met (os : Os) : laidMet Tryd.prog Rows.valueBackUptoRow.laid ((laidWorld os).forCall (fun _ _ => 0) ⟨#[], #[zeroV, .slice none 0 0, .slice none 0 0, .int .u16 0], []⟩).memory :=
  laidMet_of_run' 8 (by kernel_rfl) (by kernel_rfl)
theorem reads (os : Os) {H : Type} (enc : TypeId × Value → H) : ∃ places, DataW.whole enc Tryd.prog ((laidWorld os).forCall (fun _ _ => 0) ⟨#[], #[zeroV, .slice none 0 0, .slice none 0 0, .int .u16 0], []⟩).memory Tryd.f12.params.toList Rows.valueBackSpec.vars false (#[zeroV, .slice none 0 0, .slice none 0 0, .int .u16 0] : Array Value).toList 8 = some ([.agg [.lit (.int .i64 0), .lit (.bool false), .lit (.int .i64 0), .lit (.string []), .nil], .nil, .nil, .lit (.int .u16 0)], [], places) :=
  ⟨[], by kernel_rfl⟩
set_option maxRecDepth 100000 in
theorem lifted (os : Os) (started : os.Started) (H : Type) (enc : TypeId × Value → H) (F : Stop.Interp) :
    ReturnsInHanded {} Tryd.checked os 12 .any ((Rows.OpenSpec.upto Rows.valueBackSpec).preRow enc Tryd.prog Tryd.f12 Rows.valueBackUptoRow.domain false Rows.valueBackUptoRow.laid) (((Rows.OpenSpec.upto Rows.valueBackSpec).at F).post enc Tryd.prog Tryd.f12 false true false false) := by
  obtain ⟨places, hx⟩ := reads os enc
  refine returnsInHanded_of_row (C := Tryd.checked) (s := (Rows.OpenSpec.upto Rows.valueBackSpec)) own started (by kernel_rfl) Tryd.func12
    (witness_row_at (enc := enc) (C := Tryd.checked) false (laidWorld os) #[zeroV, .slice none 0 0, .slice none 0 0, .int .u16 0] rfl (by kernel_rfl) (by kernel_rfl) (by kernel_rfl)
      (OpenSpec.preRow_of_cond 8 hx (by kernel_rfl) (fun k hk => by cases hk; kernel_rfl) (by kernel_rfl) (laid_met os))) ?_
  intro W base args ds gs before hval hW _ hcond _ hL _ _
  exact contract H enc W base args ds gs before hval hW hL (hcond _ rfl)

theorem said : Rows.ValueBackUptoSaid :=
  OpenClaim.holds_of_cond 12 Tryd.f12 rfl rfl rfl rfl rfl rfl rfl ⟨rfl, rfl, rfl, rfl, rfl⟩ rfl rfl rfl rfl rfl (by kernel_rfl) Tryd.func12 (by kernel_rfl)
    (of_decide_eq_true (by kernel_rfl)) (by unfold Func.isWrapper; first | (rw [if_pos (by decide +kernel)]; kernel_rfl) | (rw [if_neg (by decide +kernel)]; exact ⟨rfl, rfl⟩))
    (fun os started H enc _ F => by rw [OpenClaim.pre_eq_preRow]; exact lifted os started H enc F)

theorem plain (f : FuncId) (fn : Func) (hf : Tryd.pinned.checked.prog.funcNamed "portolan/portolanlaw02.ValueBack" = some f) (hfn : Tryd.pinned.checked.prog.funcs[f]? = some fn) :
    false = Tryd.pinned.checked.prog.looks [] ∧ ∀ (j : Nat) t, fn.params[j]? = some t → Tryd.pinned.checked.prog.wantsStandIn t = false := by
  obtain rfl : f = 12 := Option.some.inj ((show Tryd.prog.funcNamed "portolan/portolanlaw02.ValueBack" = some 12 by kernel_rfl).symm.trans hf) |>.symm
  obtain rfl : fn = Tryd.f12 := (Option.some.inj (Tryd.func12.symm.trans hfn)).symm
  refine ⟨by kernel_rfl, fun j t ht => ?_⟩
  rw [Tryd.params12] at ht
  have ht2 := Array.mem_of_getElem? ht
  simp only [List.mem_cons, List.mem_nil_iff, or_false, List.mem_toArray] at ht2
  rcases ht2 with rfl | rfl | rfl | rfl
  · exact (show Tryd.prog.wantsStandIn 25 = false by kernel_rfl)
  · exact (show Tryd.prog.wantsStandIn 30 = false by kernel_rfl)
  · exact (show Tryd.prog.wantsStandIn 30 = false by kernel_rfl)
  · exact (show Tryd.prog.wantsStandIn 37 = false by kernel_rfl)

/-- The card. -/
theorem card : Rows.ValueBackUptoCardSaid :=
  Claim7.holds_tied_plain_at .later [] _ _ _ _ said (fun _ h => by cases h) (by kernel_rfl) (fun _ h => by cases h) valueBackUpto_row_tie rfl ⟨rfl, rfl⟩ (by kernel_rfl) rfl plain (by kernel_rfl)
end ofValueBack
end Go.Proofs.YthafbdkjpgeopaaDoor
