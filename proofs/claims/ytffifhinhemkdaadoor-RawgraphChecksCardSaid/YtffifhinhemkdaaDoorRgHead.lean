/- The head of the laws on graphs as they are handed in. -/
import Derived.Test.YtffifhinhemkdaaDoorRgName
import Derived.Maps.OwnOps
import Derived.Maps.OwnSet
import Derived.ScopeJumps
import Derived.WalkMore
import Derived.StringKeys
import Derived.WalkKit
import Derived.Deep.Cut
set_option linter.unusedVariables false
set_option linter.unusedSimpArgs false
namespace Go.Proofs.YtffifhinhemkdaaDoor
open Go.RowKit Go.Maps

/-- How a map among a map's elements is read: by its block. -/
def mapElem : Value → Option (DataW Unit × List MemPlace)
  | .map (some b) => some (.lit (.int .i64 (b : Int)), [])
  | .map none => some (.lit (.int .i64 (-1)), [])
  | _ => none
theorem mapElem_inv {v : Value} {z : DataW Unit × List MemPlace} (h : mapElem v = some z) : ∃ c : Option Nat, v = .map c ∧ z = (.lit (.int .i64 (match c with | some b => (b : Int) | none => -1)), []) := by
  cases v with
  | map c => cases c with
    | none => simp [mapElem] at h; exact ⟨none, rfl, h.symm⟩
    | some b => simp [mapElem] at h; exact ⟨some b, rfl, h.symm⟩
  | _ => simp [mapElem] at h
theorem law : Keyed Tryd.prog 9 := string_keyed Tryd.underlying9
theorem zero_kinds (W : World) : (zeroValue 79).run Tryd.prog W = .ok (.map none) W := by kernel_rfl
/-- A block's number, or none. -/
def encB : Option Nat → Int
  | some b => (b : Int)
  | none => -1
theorem encB_inj {c d : Option Nat} (h : encB c = encB d) : c = d := by
  cases c <;> cases d <;> simp [encB] at h ⊢ <;> omega
/-- A look-up in a map of maps. -/
theorem wpList_lookup_map {ops : Array Oper} {rest : List Oper} {o : Oper} {a : Act} {Q : Exit → Act → World → Prop} (w : World) (hg : o.guard = none) (m x : Operand) (hop : o.op = Op.lookup 45 m x false) (b n : Nat) (D : DataW Unit)
    (hm : a.eval m = .map (some b)) (hown : w.ownsMap Tryd.prog 9 mapElem b n D) (s : ByteArray) (hs : s.size ≤ maxLen) (hx : a.eval x = .string s) (c : Option Nat) (hat : D.atKey (.string s.data.toList) (.lit (.int .i64 (-1))) = .lit (.int .i64 (encB c)))
    (hK : wpList Tryd.prog ops Q rest (a.put o.dst (.map c)) w) :
    wpList Tryd.prog ops Q (o :: rest) a w := by
  refine wpList_plain hg fun K' hK' => ?_
  have hkey : keyOf Tryd.prog 9 (.string s) = some (.string s.data.toList) := WideMaps.keyOf_string_mk Tryd.underlying9 hs
  obtain ⟨v, ps, hrun, hv⟩ := hown.lookup (t := 45) (e := 79) law Tryd.underlying45 (zero_kinds w) (zd := .lit (.int .i64 (-1))) (zp := []) rfl hkey
  obtain ⟨c', rfl, hc⟩ := mapElem_inv hv
  simp only [Prod.mk.injEq] at hc
  have hcc : c' = c := by
    apply encB_inj
    have h := hc.1.symm.trans hat
    cases c' <;> simpa [encB] using h
  subst hcc
  unfold Oper.wp
  simp [execOp, hop, hm, hx, hrun, Result.andThen]
  exact hK' _ _ hK
theorem ownsMap_at {W W' : World} {k : TypeId} {R : Value → Option (DataW Unit × List MemPlace)} {b n : Nat} {D : DataW Unit} (h : W.ownsMap Tryd.prog k R b n D) (e : W'.heap[b]? = W.heap[b]?) : W'.ownsMap Tryd.prog k R b n D := by
  obtain ⟨es, clock, hb, r⟩ := h
  exact ⟨es, clock, e.trans hb, r⟩
theorem ownsMap_below {W W' : World} {k : TypeId} {R : Value → Option (DataW Unit × List MemPlace)} {b n : Nat} {D : DataW Unit} (h : W.ownsMap Tryd.prog k R b n D) (hb : Below W.heap.size W W') : W'.ownsMap Tryd.prog k R b n D := ownsMap_at h (hb.block b h.lt)
/-- A box of a type that is looked at. -/
def TBox (W : World) (b : Nat) (cs : Array Value) : Prop := W.heap[b]? = some (.cells cs 41 (0, 0))
theorem TBox.cells {W : World} {b : Nat} {cs : Array Value} (h : TBox W b cs) : ∀ j, W.cell? ⟨b, j, none⟩ = cs[j]? := fun j => by
  unfold World.cell?
  rw [h]
  rfl
theorem TBox.below {W W' : World} {b : Nat} {cs : Array Value} (h : TBox W b cs) (hb : Below W.heap.size W W') : TBox W' b cs := (hb.block b (Array.getElem?_eq_some_iff.1 h).1).trans h
theorem neq_nil (W : World) : (binOp .neq 79 (.map none) (.map none)).run Tryd.prog W = .ok (.bool false) W := by kernel_rfl
theorem neq_some (b : Nat) (W : World) : (binOp .neq 79 (.map (some b)) (.map none)).run Tryd.prog W = .ok (.bool true) W := by kernel_rfl
theorem nameA : nameB ⟨#[65]⟩ = true := by kernel_rfl
theorem nameA1 : nameB ⟨#[97, 49]⟩ = true := by kernel_rfl
def headT : Array Value := #[.string ⟨#[65]⟩, .slice none 0 0, .string ⟨#[65]⟩, .slice none 0 0]
set_option maxRecDepth 100000 in
set_option maxHeartbeats 3200000 in
theorem declared_head (b : Nat) (w : World) (hb : w.heap[b]? = some (.cells headT 41 (0, 0))) :
    Calls Tryd.prog 16 #[.slice (some ⟨b, 0, none⟩) 2 2] w fun e w' => e = .returned (.tuple #[.map none, .int .i64 1, .int .i64 42]) ∧ Below w.heap.size w w' := by
  have hbl : b < w.heap.size := (Array.getElem?_eq_some_iff.1 hb).1
  have HCB : Aside0 (∀ W, Below w.heap.size w W → ∀ j, W.cell? ⟨b, j, none⟩ = headT[j]?) := ⟨fun W h j => by
    unfold World.cell?
    rw [h.block b hbl, hb]
    rfl⟩
  have HNA : Aside0 (∀ W, Calls Tryd.prog 6 #[.string ⟨#[65]⟩] W fun e w' => e = .returned (.bool true) ∧ Below W.heap.size W w') := ⟨fun W => by
    have h := name_any ⟨#[65]⟩ W
    rw [nameA] at h
    exact h⟩
  clear hb
  go_enter Tryd.func16, Tryd.ntmps16
  have hmm := @run_makeMap Tryd.prog
  have hq0 := neq_nil
  have hq1 := neq_some
  go_wp2
  refine wp_scope_jumps 0 (fun a' w' => a' = { tmps := #[(a'.tmps.getD 0 undef), (a'.tmps.getD 1 undef), (a'.tmps.getD 2 undef), (a'.tmps.getD 3 undef), (a'.tmps.getD 4 undef), (a'.tmps.getD 5 undef), .int .i64 42, .int .i64 1, (a'.tmps.getD 8 undef), (a'.tmps.getD 9 undef), (a'.tmps.getD 10 undef), (a'.tmps.getD 11 undef), (a'.tmps.getD 12 undef), (a'.tmps.getD 13 undef), (a'.tmps.getD 14 undef), (a'.tmps.getD 15 undef), (a'.tmps.getD 16 undef), (a'.tmps.getD 17 undef), (a'.tmps.getD 18 undef), (a'.tmps.getD 19 undef), (a'.tmps.getD 20 undef), (a'.tmps.getD 21 undef), (a'.tmps.getD 22 undef), (a'.tmps.getD 23 undef), (a'.tmps.getD 24 undef), (a'.tmps.getD 25 undef), (a'.tmps.getD 26 undef), (a'.tmps.getD 27 undef), (a'.tmps.getD 28 undef), (a'.tmps.getD 29 undef), (a'.tmps.getD 30 undef), (a'.tmps.getD 31 undef), (a'.tmps.getD 32 undef), (a'.tmps.getD 33 undef), (a'.tmps.getD 34 undef), (a'.tmps.getD 35 undef), (a'.tmps.getD 36 undef), (a'.tmps.getD 37 undef), (a'.tmps.getD 38 undef), (a'.tmps.getD 39 undef), (a'.tmps.getD 40 undef), (a'.tmps.getD 41 undef), (a'.tmps.getD 42 undef), (a'.tmps.getD 43 undef), (a'.tmps.getD 44 undef), (a'.tmps.getD 45 undef), (a'.tmps.getD 46 undef), (a'.tmps.getD 47 undef), (a'.tmps.getD 48 undef), (a'.tmps.getD 49 undef), (a'.tmps.getD 50 undef), (a'.tmps.getD 51 undef), (a'.tmps.getD 52 undef), (a'.tmps.getD 53 undef), (a'.tmps.getD 54 undef), (a'.tmps.getD 55 undef), (a'.tmps.getD 56 undef), (a'.tmps.getD 57 undef), (a'.tmps.getD 58 undef), (a'.tmps.getD 59 undef), (a'.tmps.getD 60 undef), (a'.tmps.getD 61 undef), (a'.tmps.getD 62 undef), (a'.tmps.getD 63 undef), (a'.tmps.getD 64 undef), (a'.tmps.getD 65 undef), (a'.tmps.getD 66 undef), (a'.tmps.getD 67 undef), (a'.tmps.getD 68 undef), (a'.tmps.getD 69 undef), (a'.tmps.getD 70 undef), (a'.tmps.getD 71 undef), (a'.tmps.getD 72 undef), (a'.tmps.getD 73 undef), (a'.tmps.getD 74 undef), (a'.tmps.getD 75 undef), (a'.tmps.getD 76 undef), (a'.tmps.getD 77 undef), (a'.tmps.getD 78 undef), (a'.tmps.getD 79 undef), (a'.tmps.getD 80 undef), (a'.tmps.getD 81 undef), (a'.tmps.getD 82 undef), (a'.tmps.getD 83 undef), (a'.tmps.getD 84 undef)], defers := [] } ∧ Below w.heap.size w w') (fun _ _ => 0) rfl ?first ?pass
  case pass =>
    rintro a' w' ⟨ha, HBP⟩
    obtain ⟨U, hU⟩ : ∃ U : Nat → Value, U = fun i => a'.tmps.getD i undef := ⟨_, rfl⟩
    have ha2 : a' = { tmps := #[U 0, U 1, U 2, U 3, U 4, U 5, .int .i64 42, .int .i64 1, U 8, U 9, U 10, U 11, U 12, U 13, U 14, U 15, U 16, U 17, U 18, U 19, U 20, U 21, U 22, U 23, U 24, U 25, U 26, U 27, U 28, U 29, U 30, U 31, U 32, U 33, U 34, U 35, U 36, U 37, U 38, U 39, U 40, U 41, U 42, U 43, U 44, U 45, U 46, U 47, U 48, U 49, U 50, U 51, U 52, U 53, U 54, U 55, U 56, U 57, U 58, U 59, U 60, U 61, U 62, U 63, U 64, U 65, U 66, U 67, U 68, U 69, U 70, U 71, U 72, U 73, U 74, U 75, U 76, U 77, U 78, U 79, U 80, U 81, U 82, U 83, U 84], defers := [] } := by rw [hU]; exact ha
    clear hU ha
    subst ha2
    go_wp2
    simp only [Exit.jump]
    go_ret3
    exact ⟨rfl, HBP⟩
  case first =>
  obtain ⟨W1, hW1⟩ : ∃ W1, W1 = w.alloc (.map #[] 0) := ⟨_, rfl⟩
  obtain ⟨bm, hbm⟩ : ∃ bm, bm = w.heap.size := ⟨_, rfl⟩
  have HO1 : Aside0 (W1.ownsMap Tryd.prog 9 mapElem bm 0 (.map [])) := ⟨by rw [hW1, hbm]; exact World.ownsMap_made w _ _ _⟩
  have HB1 : Aside0 (Below w.heap.size w W1) := ⟨by rw [hW1]; exact below_more (Below.refl _ _) _⟩
  go_wp2
  rw [← hW1, ← hbm]
  have HBM := Aside0.mk hbm
  clear hW1 hbm
  go_loopg [6, 7, 18] 3 (fun gg s6 s7 s18 wr => ∃ (j : Nat) (D : DataW Unit), j ≤ 1 ∧ 2 ≤ gg + j ∧ s18 = .int .i64 j ∧ s6 = .int .i64 2 ∧ Aside0 ((j = 0 ∧ D = .map []) ∨ (j = 1 ∧ ∃ bk : Nat, D = (DataW.map []).put (.string [65]) (.lit (.int .i64 (bk : Int))))) ∧ Aside0 (wr.ownsMap Tryd.prog 9 mapElem bm j D) ∧ Aside0 (Below w.heap.size w wr))
  case atStart => exact ⟨0, _, by omega, by omega, rfl, rfl, ⟨.inl ⟨rfl, rfl⟩⟩, HO1, HB1⟩
  case round =>
    obtain ⟨j, D, hj, hg, rfl, rfl, HD, HO, HB⟩ := hrel
    have hcc := HCB.out wr HB.out
    have hc0 := hcc 0
    have hc1 := hcc 1
    have hc2 := hcc 2
    have hc3 := hcc 3
    simp only [headT] at hc0 hc1 hc2 hc3
    clear hcc
    rcases HD.out with ⟨rfl, rfl⟩ | ⟨rfl, bk, hD⟩
    · skip
      go_upto_region 7 with (fail)
      obtain ⟨W2, hW2⟩ : ∃ W2, W2 = wr.alloc (.cells #[.string ⟨#[65]⟩, .slice none 0 0] 41) := ⟨_, rfl⟩
      obtain ⟨bt, hbt⟩ : ∃ bt, bt = wr.heap.size := ⟨_, rfl⟩
      have HT2 : Aside0 (TBox W2 bt #[.string ⟨#[65]⟩, .slice none 0 0]) := ⟨by rw [hW2, hbt]; exact heap_alloc_new wr _⟩
      have HB2 : Aside0 (Below wr.heap.size wr W2) := ⟨by rw [hW2]; exact below_more (Below.refl _ _) _⟩
      rw [← hW2, ← hbt]
      clear hW2 hbt hc0 hc1 hc2 hc3
      go_upto_region 9 with (fail)
      obtain ⟨W3, hW3⟩ : ∃ W3, W3 = W2.alloc (.map #[] 0) := ⟨_, rfl⟩
      obtain ⟨bk3, hbk⟩ : ∃ bk3, bk3 = W2.heap.size := ⟨_, rfl⟩
      have HT3 : Aside0 (TBox W3 bt #[.string ⟨#[65]⟩, .slice none 0 0]) := ⟨by rw [hW3]; exact HT2.out.below (below_more (Below.refl _ _) _)⟩
      have HB3 : Aside0 (Below wr.heap.size wr W3) := ⟨by rw [hW3]; exact below_more HB2.out _⟩
      rw [← hW3, ← hbk]
      clear hW3 hbk HT2
      have htc := HT3.out.cells
      have hna := HNA.out W3
      go_upto_region 12 with (go_at_call 6; go_loud (refine hna.mono ?_))
      first
        | (intro e W4 he hb4; subst he)
        | rintro e W4 ⟨rfl, hb4⟩
      have HT4 := Aside0.mk (HT3.out.below hb4)
      have HB4 := Aside0.mk (below_then HB3.out hb4)
      have HO4 := Aside0.mk (ownsMap_below HO.out HB4.out)
      clear htc hna hb4 HT3 HB3
      have htc := HT4.out.cells
      have hown := HO4.out
      go_upto_region 14 with (at_lookup; go_loud (refine wpList_lookup_map _ rfl _ _ rfl bm 0 _ rfl hown ⟨#[65]⟩ (by decide) rfl none rfl ?_))
      go_wp2
      obtain ⟨G, hG⟩ : ∃ G, G = gk := ⟨_, rfl⟩
      have HG := Aside0.mk (And.intro hG hg)
      clear hG
      go_loopg [6, 43] 1 (fun gg s6 s43 wx => s6 = .int .i64 2 ∧ s43 = .int .i64 0 ∧ gg = 1 ∧ wx = W4)
      case atStart => exact ⟨rfl, rfl, rfl, rfl⟩
      case round =>
      obtain ⟨rfl, rfl, hgg, rfl⟩ := hrel
      have htc := HT4.out.cells
      have hown := HO4.out
      have hkey : keyOf Tryd.prog 9 (.string ⟨#[65]⟩) = some (.string [65]) := WideMaps.keyOf_string_mk Tryd.underlying9 (by decide)
      have hml : 0 < maxLen := by decide
      go_wp2_with (at_mapUpdate; go_loud (refine wpList_mapUpdate_own _ rfl _ _ _ 45 rfl 9 79 law Tryd.underlying45 mapElem bm 0 (.map []) rfl hown hml _ _ _ rfl rfl hkey _ [] rfl ?_))
      intro W5 hown5 hg5
      have HB5 : Aside0 (Below w.heap.size w W5) := ⟨by
        have h4 := below_then HB.out HB4.out
        have hm := HBM.out
        exact ⟨hg5.os.trans h4.os, hg5.tape.trans h4.tape, hg5.output.trans h4.output, Nat.le_trans h4.size hg5.size, fun k hk => (hg5.block k (by have := h4.size; omega) (fun e => by have := Option.some.inj e; omega)).trans (h4.block k hk)⟩⟩
      have HO5 := Aside0.mk hown5
      clear hown5 hg5 hown htc hkey hml
      go_wp2
      go_roundg (G - 1)
      case measure => have := HG.out; omega
      case rel => exact ⟨1, _, by omega, by have := HG.out; omega, by first | rfl | go_num, rfl, ⟨.inr ⟨rfl, bk3, rfl⟩⟩, HO5, HB5⟩
    · have HAT : Aside0 (D.atKey (.string [65]) (.lit (.int .i64 (-1))) = .lit (.int .i64 (encB (some bk)))) := ⟨by
        rw [hD]
        exact atKey_put_same (k := .string [65]) ⟨_, rfl⟩ trivial _ _⟩
      clear hD
      go_upto_region 7 with (fail)
      obtain ⟨W2, hW2⟩ : ∃ W2, W2 = wr.alloc (.cells #[.string ⟨#[65]⟩, .slice none 0 0] 41) := ⟨_, rfl⟩
      obtain ⟨bt, hbt⟩ : ∃ bt, bt = wr.heap.size := ⟨_, rfl⟩
      have HT2 : Aside0 (TBox W2 bt #[.string ⟨#[65]⟩, .slice none 0 0]) := ⟨by rw [hW2, hbt]; exact heap_alloc_new wr _⟩
      have HB2 : Aside0 (Below wr.heap.size wr W2) := ⟨by rw [hW2]; exact below_more (Below.refl _ _) _⟩
      rw [← hW2, ← hbt]
      clear hW2 hbt hc0 hc1 hc2 hc3
      go_upto_region 9 with (fail)
      obtain ⟨W3, hW3⟩ : ∃ W3, W3 = W2.alloc (.map #[] 0) := ⟨_, rfl⟩
      obtain ⟨bk3, hbk⟩ : ∃ bk3, bk3 = W2.heap.size := ⟨_, rfl⟩
      have HT3 : Aside0 (TBox W3 bt #[.string ⟨#[65]⟩, .slice none 0 0]) := ⟨by rw [hW3]; exact HT2.out.below (below_more (Below.refl _ _) _)⟩
      have HB3 : Aside0 (Below wr.heap.size wr W3) := ⟨by rw [hW3]; exact below_more HB2.out _⟩
      rw [← hW3, ← hbk]
      clear hW3 hbk HT2
      have htc := HT3.out.cells
      have hna := HNA.out W3
      go_upto_region 12 with (go_at_call 6; go_loud (refine hna.mono ?_))
      first
        | (intro e W4 he hb4; subst he)
        | rintro e W4 ⟨rfl, hb4⟩
      have HT4 := Aside0.mk (HT3.out.below hb4)
      have HB4 := Aside0.mk (below_then HB3.out hb4)
      have HO4 := Aside0.mk (ownsMap_below HO.out HB4.out)
      clear htc hna hb4 HT3 HB3
      have htc := HT4.out.cells
      have hown := HO4.out
      go_upto_region 14 with (at_lookup; go_loud (refine wpList_lookup_map _ rfl _ _ rfl bm 1 _ rfl hown ⟨#[65]⟩ (by decide) rfl (some bk) HAT.out ?_))
      go_wp2
      refine wp_goto ?_
      exact ⟨rfl, rfl, below_then HB.out HB4.out⟩
end Go.Proofs.YtffifhinhemkdaaDoor
