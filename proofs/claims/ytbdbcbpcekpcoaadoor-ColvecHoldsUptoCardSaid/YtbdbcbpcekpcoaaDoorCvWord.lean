/- colvec.word: a text's place. -/
import Derived.Test.YtbdbcbpcekpcoaaDoorCvDict
import Derived.Test.YtbdbcbpcekpcoaaDoorCvAppP
import Derived.Deep.Cut
import Derived.ScopeJumps
import Derived.Maps.OwnOps
import Derived.WalkMore
import Derived.StringKeys
set_option linter.unusedVariables false
set_option linter.unusedSimpArgs false
namespace Go.Proofs.YtbdbcbpcekpcoaaDoor
open Go.RowKit Go.Maps

theorem info_str : (Tryd.prog.info? 9).map (fun i => (i.zero, i.size, i.bytes)) = some (some (.string ⟨#[]⟩), 1, 16) := by kernel_rfl
theorem law : Keyed Tryd.prog 9 := string_keyed Tryd.underlying9
theorem zero_int (W : World) : (zeroValue 3).run Tryd.prog W = .ok (.int .i64 0) W := by kernel_rfl
theorem textCells_snoc (P : List ByteArray) (x : ByteArray) : textCells (P ++ [x]) = textCells P ++ [.string x] := by simp [textCells]
set_option maxRecDepth 100000 in
set_option maxHeartbeats 3200000 in
theorem word_hit (F : Nat → Prop) (b : Nat) (s : VS) (t : ByteArray) (w : World) (hv : VecIs w F b s) (ht : t.data.toList ∈ keysL s.dl) (hn : (keysL s.dl).Nodup) (hsz : t.size ≤ maxLen) :
    Calls Tryd.prog 30 #[.pointer (some ⟨b, 0, none⟩), .string t] w fun e w' => e = .returned (.int .i64 ((keysL s.dl).idxOf t.data.toList : Int)) ∧ w' = w := by
  obtain ⟨nv, bv, iv, dv, hvv, m, hV⟩ := hv
  have hc := hV.box.cells
  have hf := hV.box.free
  have hown := hV.known
  have hhas := dict_has s.dl.length s.dl t.data.toList rfl
  rw [decide_eq_true ht] at hhas
  have hat := fun z => dict_at s.dl.length s.dl t.data.toList z rfl hn ht
  have hkey : keyOf Tryd.prog 9 (.string t) = some (.string t.data.toList) := WideMaps.keyOf_string_mk Tryd.underlying9 hsz
  generalize ((keysL s.dl).idxOf t.data.toList : Int) = ix at hat ⊢
  generalize dictD s.dl 0 (.map []) = D at hown hhas hat
  generalize s.dl.length = n at hown
  generalize (s.nl.length : Int) = N at hc
  have HAT := Aside0.mk hat
  clear hV hat ht hn hsz
  go_enter Tryd.func30, Tryd.ntmps30
  go_wp2
  refine wp_scope_jumps 0 (fun a' w' => a' = { tmps := #[(a'.tmps.getD 0 undef), (a'.tmps.getD 1 undef), (a'.tmps.getD 2 undef), (a'.tmps.getD 3 undef), (a'.tmps.getD 4 undef), .int .i64 ix, (a'.tmps.getD 6 undef), (a'.tmps.getD 7 undef), (a'.tmps.getD 8 undef), (a'.tmps.getD 9 undef), (a'.tmps.getD 10 undef), (a'.tmps.getD 11 undef), (a'.tmps.getD 12 undef), (a'.tmps.getD 13 undef), (a'.tmps.getD 14 undef), (a'.tmps.getD 15 undef), (a'.tmps.getD 16 undef), (a'.tmps.getD 17 undef), (a'.tmps.getD 18 undef), (a'.tmps.getD 19 undef), (a'.tmps.getD 20 undef), (a'.tmps.getD 21 undef), (a'.tmps.getD 22 undef), (a'.tmps.getD 23 undef), (a'.tmps.getD 24 undef), (a'.tmps.getD 25 undef), (a'.tmps.getD 26 undef), (a'.tmps.getD 27 undef), (a'.tmps.getD 28 undef), (a'.tmps.getD 29 undef), (a'.tmps.getD 30 undef), (a'.tmps.getD 31 undef), (a'.tmps.getD 32 undef), (a'.tmps.getD 33 undef), (a'.tmps.getD 34 undef), (a'.tmps.getD 35 undef), (a'.tmps.getD 36 undef), (a'.tmps.getD 37 undef), (a'.tmps.getD 38 undef)], defers := [] } ∧ w' = w) (fun _ _ => 0) rfl ?first ?pass
  case pass =>
    rintro a' w' ⟨ha, rfl⟩
    obtain ⟨U, hU⟩ : ∃ U : Nat → Value, U = fun i => a'.tmps.getD i undef := ⟨_, rfl⟩
    have ha2 : a' = { tmps := #[U 0, U 1, U 2, U 3, U 4, .int .i64 ix, U 6, U 7, U 8, U 9, U 10, U 11, U 12, U 13, U 14, U 15, U 16, U 17, U 18, U 19, U 20, U 21, U 22, U 23, U 24, U 25, U 26, U 27, U 28, U 29, U 30, U 31, U 32, U 33, U 34, U 35, U 36, U 37, U 38], defers := [] } := by rw [hU]; exact ha
    clear hU ha
    subst ha2
    go_wp2
    first
      | go_ret
      | (simp only [Exit.jump]; go_ret)
    exact ⟨rfl, rfl⟩
  case first =>
  go_upto_region 2 with (at_lookup; go_loud (refine wpList_lookup_own_ok_int _ rfl _ _ 50 rfl 9 3 .i64 law Tryd.underlying50 Tryd.underlying3 (zero_int _) m n D rfl hown _ _ rfl hkey ?_; intro c hcat hwc))
  obtain rfl : c = ix := by
    have h := HAT.out (.lit (.int .i64 0))
    rw [hcat] at h
    cases h
    rfl
  clear hcat hwc HAT
  go_upto_region 3 with (fail)
  refine wp_goto ?_
  exact ⟨rfl, rfl, rfl⟩
set_option maxRecDepth 100000 in
set_option maxHeartbeats 3200000 in
theorem word_new (F : Nat → Prop) (b : Nat) (s : VS) (nv bv iv dv hvv : Value) (m : Nat) (t : ByteArray) (w : World) (hV : VecAt w F b s nv bv iv dv hvv m) (ht : ¬ t.data.toList ∈ keysL s.dl) (hsz : t.size ≤ maxLen) (hdl : s.dl.length ≤ 8796093022207) :
    Calls Tryd.prog 30 #[.pointer (some ⟨b, 0, none⟩), .string t] w fun e w' => e = .returned (.int .i64 (s.dl.length : Int)) ∧ ∃ dv', VecB w' b #[.int .i64 s.k, .int .i64 (s.nl.length : Int), nv, bv, iv, dv', .map (some m), hvv] ∧ w'.ownsRow 0 9 1 dv' (s.dl ++ [t]).length (textCells (s.dl ++ [t])) ∧ w'.ownsMap Tryd.prog 9 (plainElem Tryd.prog 3) m (s.dl ++ [t]).length (dictD (s.dl ++ [t]) 0 (.map [])) ∧
      InZ (fun j => w.heap.size ≤ j ∧ j < w'.heap.size) dv dv' ∧ KeptBut (fun j => j = b ∨ dv.ownBlock = some j ∨ j = m) w w' := by
  have hc := hV.box.cells
  have hf := hV.box.free
  have hown := hV.known
  have hhas := dict_has s.dl.length s.dl t.data.toList rfl
  rw [decide_eq_false ht] at hhas
  have hkey : keyOf Tryd.prog 9 (.string t) = some (.string t.data.toList) := WideMaps.keyOf_string_mk Tryd.underlying9 hsz
  have HDS := Aside0.mk (dictD_snoc s.dl t 0 (.map []))
  rw [Nat.zero_add] at HDS
  have HV := Aside0.mk hV
  have hod := hV.dict
  generalize dictD s.dl 0 (.map []) = D at hown hhas HDS
  obtain ⟨L, hL⟩ : ∃ L, L = s.dl.length := ⟨_, rfl⟩
  rw [← hL] at hown hdl hod ⊢
  obtain ⟨N, hN⟩ : ∃ N, N = (s.nl.length : Int) := ⟨_, rfl⟩
  rw [← hN] at hc ⊢
  obtain ⟨Ad, cd, rfl, hL9⟩ := row_shape hod
  have HL := Aside0.mk hL
  have HNN := Aside0.mk hN
  have hdl9 : (L : Int) ≤ 8796093022207 := by omega
  have HHK := Aside0.mk hkey
  obtain ⟨i0, hi, hz0, hz1, hz2⟩ := info_parts info_str
  clear hV ht hL hN
  go_enter Tryd.func30, Tryd.ntmps30
  go_wp2
  go_step3
  go_upto_region 2 with (at_lookup; go_loud (refine wpList_lookup_own_ok_int _ rfl _ _ 50 rfl 9 3 .i64 law Tryd.underlying50 Tryd.underlying3 (zero_int _) m L D rfl hown _ _ rfl hkey ?_; intro c hcat hwc))
  clear hcat hwc
  go_wp2_with (at_builtin; go_loud (refine wpList_append_own_at (w := w.alloc (.cells #[.string t] 9)) rfl (.tmp 26) (.tmp 28) 52 rfl 0 9 i0 (.string ⟨#[]⟩) 1 16 Tryd.underlying52 hi hz0 hz1 hz2 rfl (by decide) (.slice Ad L cd) L (textCells s.dl) rfl (hod.alloc _) ⟨w.heap.size, 0, none⟩ 1 1 [.string t] rfl rfl (cell_one_new _ _ _) (by intro u hu; simp at hu; subst hu; rfl) (by unfold maxLen; omega) (by omega) (Nat.zero_le _) ?_))
  intro v1 W1 ho1 hg1 hnn hat1
  obtain ⟨A1, c1, rfl, hl1⟩ := row_shape ho1
  have hV := HV.out
  have hg := (World.grownBy_alloc w (.cells #[.string t] 9) (Value.ownBlock (.slice Ad L cd))).trans hg1
  have hv1 := hV.box.at_ (hg.block b hV.box.lt (fun e => (hV.db _ e.symm).2.1 rfl))
  rw [← HNN.out] at hv1
  have hown1 := map_at hown (hg.block m hown.lt (fun e => (hV.db _ e.symm).2.2 rfl))
  have hc1 := hv1.cells
  have hf1 := hv1.free
  have HO1 := Aside0.mk (And.intro ho1 (And.intro hg hat1))
  have hbm := hV.bm
  have HBM := Aside0.mk hbm
  clear hV ho1 hg1 hnn hat1 hg hc hf hown hod hhas hbm
  go_upto_region 5 with (fail)
  obtain ⟨W2, hW2⟩ : ∃ W2, W2 = W1.setCell ⟨b, 5, none⟩ (.slice A1 (L + 1) c1) := ⟨_, rfl⟩
  rw [← hW2]
  have hv2 : VecB W2 b #[.int .i64 s.k, .int .i64 N, nv, bv, iv, .slice A1 (L + 1) c1, .map (some m), hvv] := by rw [hW2]; exact hv1.put 5 _
  have hown2 : W2.ownsMap Tryd.prog 9 (plainElem Tryd.prog 3) m L D := map_at hown1 (by rw [hW2]; exact heap_setCell_other _ _ _ _ (fun h => HBM.out h.symm))
  have hc2 := hv2.cells
  have hf2 := hv2.free
  have HW2 := Aside0.mk hW2
  have hwf : (Lit.int .i64 (L : Int)).wf = true := by
    simp [Lit.wf, IntKind.min, IntKind.max, IntKind.signed, IntKind.bits]
    omega
  have hLm : L < maxLen := by unfold maxLen; omega
  clear hW2 hv1 hc1 hf1 hown1
  go_wp2_with (at_mapUpdate; go_loud (refine wpList_mapUpdate_own _ rfl _ _ _ 50 rfl 9 3 law Tryd.underlying50 _ m L D rfl hown2 hLm _ _ _ rfl rfl HHK.out _ [] (plainElem_int Tryd.underlying3 hwf) ?_))
  intro W3 hown3 hg3
  have HO3 := Aside0.mk (And.intro hown3 hg3)
  have HV2 := Aside0.mk hv2
  clear hown3 hg3 hown2 hv2 hc2 hf2 hwf
  (try go_wp2)
  (try refine wp_label ?_)
  go_wp2
  (try rw [Exit.noGoto_ret])
  go_ret
  obtain ⟨ho1, hg, hat1⟩ := HO1.out
  obtain ⟨hown3, hg3⟩ := HO3.out
  have hV := HV.out
  have hW2 := HW2.out
  have hL := HL.out
  have h23 : ∀ j, j < W2.heap.size → j ≠ m → W3.heap[j]? = W2.heap[j]? := fun j hj hn => hg3.block j hj (fun e => hn (Option.some.inj e))
  have h12 : ∀ j, j ≠ b → W2.heap[j]? = W1.heap[j]? := fun j hj => by rw [hW2]; exact heap_setCell_other _ _ _ _ hj
  have hs12 : W2.heap.size = W1.heap.size := by rw [hW2]; simp
  have hA : ∀ j, Value.ownBlock (.slice A1 (L + 1) c1) = some j → j ≠ b ∧ j ≠ m ∧ j < W1.heap.size := fun j e => by
    refine ⟨?_, ?_, own_lt ho1 e⟩
    · rcases hat1 with h | h
      · rw [h] at e; exact (hV.db j e).2.1
      · rw [h] at e; cases e; have := hV.box.lt; simp; omega
    · rcases hat1 with h | h
      · rw [h] at e; exact (hV.db j e).2.2
      · rw [h] at e; cases e; have := hV.known.lt; simp; omega
  have hbw : b < W2.heap.size := HV2.out.lt
  refine ⟨rfl, .slice A1 (L + 1) c1, HV2.out.at_ (h23 b hbw hV.bm), ?_, ?_, ?_, ?_⟩
  · rw [textCells_snoc, List.length_append, ← hL]
    refine own_at ho1 (fun j hj e => ?_)
    have h := hA j e
    rw [h23 j (by omega) h.2.1, h12 j h.1]
  · rw [HDS.out, List.length_append, ← hL]
    exact hown3
  · rcases hat1 with h | h
    · exact .inl h
    · refine .inr ⟨_, h, by simp, ?_⟩
      have h1 := hA _ h
      have := hg3.size
      omega
  · have k1 : KeptBut (fun j => j = b ∨ Value.ownBlock (.slice Ad L cd) = some j ∨ j = m) w W1 := keptBut_grown hg (fun j e => Or.inr (Or.inl e))
    have k2 : KeptBut (fun j => j = b ∨ Value.ownBlock (.slice Ad L cd) = some j ∨ j = m) W1 W2 := by rw [hW2]; exact keptBut_set W1 ⟨b, 5, none⟩ _ (.inl rfl)
    exact (k1.trans k2 (fun _ _ h => h)).trans (keptBut_grown hg3 (fun j e => by cases e; exact Or.inr (Or.inr rfl))) (fun _ _ h => h)
end Go.Proofs.YtbdbcbpcekpcoaaDoor
