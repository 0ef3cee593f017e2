/- colvec.Append: texts. -/
import Derived.Test.YtbdbcbpcekpcoaaDoorCvWord
import Derived.Test.YtbdbcbpcekpcoaaDoorCvRef
import Derived.Deep.Cut
set_option linter.unusedVariables false
set_option linter.unusedSimpArgs false
namespace Go.Proofs.YtbdbcbpcekpcoaaDoor
open Go.RowKit Go.Maps

theorem vecAt_at {W W' : World} {F : Nat → Prop} {b : Nat} {s : VS} {nv bv iv dv hv : Value} {m : Nat} (hV : VecAt W F b s nv bv iv dv hv m) (hk : ∀ k, k < W.heap.size → F k → W'.heap[k]? = W.heap[k]?) : VecAt W' F b s nv bv iv dv hv m :=
  { hV with
    box := hV.box.at_ (hk b hV.box.lt hV.fb)
    nulls := own_at hV.nulls (fun k hl e => hk k hl (hV.fn k e))
    bools := own_at hV.bools (fun k hl e => hk k hl (hV.fbl k e))
    ints := own_at hV.ints (fun k hl e => hk k hl (hV.fi k e))
    dict := own_at hV.dict (fun k hl e => hk k hl (hV.fd k e))
    heap := own_at hV.heap (fun k hl e => hk k hl (hV.fh k e))
    known := map_at hV.known (hk m hV.known.lt hV.fm) }
set_option maxRecDepth 100000 in
set_option maxHeartbeats 12800000 in
theorem app_t_hit (xn : Int) (xb : Bool) (xs : ByteArray) (xA : Option Addr) (xp : List Int) (xc : Nat) (F : Nat → Prop) (b : Nat) (s : VS) (w : World) (hv : VecIs w F b s) (hsk : s.k = 3) (hr : ReadsI w xA xp) (hR : rightB 3 xb xn xs xp = true) (hsz : s.nl.length ≤ 8796093022207) (hil : s.il.length = s.nl.length) (hts : xs.size ≤ 4096) (hdl : s.dl.length ≤ s.nl.length) (ix : Int) (hix : ix = ((keysL s.dl).idxOf xs.data.toList : Int)) (hin : xs.data.toList ∈ keysL s.dl) (hnd : (keysL s.dl).Nodup) :
    Calls Tryd.prog 12 #[.pointer (some ⟨b, 0, none⟩), .agg #[.int .i64 3, .bool xb, .int .i64 xn, .string xs, .slice xA xp.length xc]] w fun e w' => e = .returned (.int .i64 0) ∧ VecIs w' (orNew F w) b { s with nl := s.nl ++ [false], il := s.il ++ [ix] } ∧ KeptBut F w w' := by
  obtain ⟨nv, bv, iv, dv, hvv, m, hV⟩ := hv
  obtain ⟨W1, hW1⟩ : ∃ W1, W1 = w.alloc (.cells #[.int .i64 3, .bool xb, .int .i64 xn, .string xs, .slice xA xp.length xc] 39) := ⟨_, rfl⟩
  have hRt : ∀ W, Below W1.heap.size W1 W → Calls Tryd.prog 29 #[.agg #[.int .i64 3, .bool xb, .int .i64 xn, .string xs, .slice xA xp.length xc]] W fun e w' => e = .returned (.bool true) ∧ Below W.heap.size W w' := fun W hW => by
    have h := right_any 3 xn xb xs xA xp xc W ((hr.below (hW1 ▸ below_more (Below.refl _ _) _)).below hW)
    rw [hR] at h
    exact h
  have hbx := hV.box
  have hbw : b < w.heap.size := hbx.lt
  obtain ⟨N, hN⟩ : ∃ N, N = s.nl.length := ⟨_, rfl⟩
  rw [hsk, ← hN] at hbx
  have hN9 : N ≤ 8796093022207 := by omega
  have hx1 : Box W1 w.heap.size #[.int .i64 3, .bool xb, .int .i64 xn, .string xs, .slice xA xp.length xc] := by rw [hW1]; exact Box.new w _
  have hv1 : VecB W1 b #[.int .i64 3, .int .i64 (N : Int), nv, bv, iv, dv, .map (some m), hvv] := hbx.at_ (by rw [hW1]; exact heap_alloc_old w _ hbw)
  have hb1 : b < W1.heap.size := hv1.lt
  have hxl1 : w.heap.size < W1.heap.size := hx1.lt
  have HS1 : Aside0 (∀ W, Below W1.heap.size W1 W → (fun WW => WW.cell? ⟨w.heap.size, 0, none⟩ = some (.int .i64 3) ∧ WW.cell? ⟨w.heap.size, 1, none⟩ = some (.bool xb) ∧ WW.cell? ⟨w.heap.size, 2, none⟩ = some (.int .i64 xn) ∧ WW.cell? ⟨w.heap.size, 3, none⟩ = some (.string xs) ∧ WW.cell? ⟨w.heap.size, 4, none⟩ = some (.slice xA xp.length xc) ∧ WW.cell? ⟨b, 0, none⟩ = some (.int .i64 3)) W) := ⟨fun W h => by
    have e1 := (hx1.at_ (h.block _ hxl1)).cells
    have e2 := (hv1.at_ (h.block _ hb1)).cells
    exact ⟨e1 0, e1 1, e1 2, e1 3, e1 4, e2 0⟩⟩
  have hS1 : (fun WW => WW.cell? ⟨w.heap.size, 0, none⟩ = some (.int .i64 3) ∧ WW.cell? ⟨w.heap.size, 1, none⟩ = some (.bool xb) ∧ WW.cell? ⟨w.heap.size, 2, none⟩ = some (.int .i64 xn) ∧ WW.cell? ⟨w.heap.size, 3, none⟩ = some (.string xs) ∧ WW.cell? ⟨w.heap.size, 4, none⟩ = some (.slice xA xp.length xc) ∧ WW.cell? ⟨b, 0, none⟩ = some (.int .i64 3)) W1 := HS1.out W1 (Below.refl _ _)
  have HK1 : Aside0 (Below w.heap.size w W1) := ⟨by rw [hW1]; exact below_more (Below.refl _ _) _⟩
  have hkk : ((3 : Int) != 3) = false := by decide
  have hx0 : ((3 : Int) == 0) = false := by decide
  have HIL := Aside0.mk hil
  have HTS : Aside0 (xs.size ≤ maxLen) := ⟨by unfold maxLen; omega⟩
  have HDL : Aside0 (s.dl.length ≤ 8796093022207) := ⟨by omega⟩
  have HIN := Aside0.mk hin
  have HND := Aside0.mk hnd
  have HIX := Aside0.mk hix
  clear hil hts hdl hin hnd hix
  have HV := Aside0.mk hV
  have HSK := Aside0.mk hsk
  have HNN := Aside0.mk hN
  have HRX := Aside0.mk hr
  clear hV hsk hN hr hR hsz hbx
  go_enter Tryd.func12, Tryd.ntmps12
  go_upto_region 1 with (fail)
  rw [← hW1]
  clear hW1
  refine wp_region_held_drew (S := (fun WW => WW.cell? ⟨w.heap.size, 0, none⟩ = some (.int .i64 3) ∧ WW.cell? ⟨w.heap.size, 1, none⟩ = some (.bool xb) ∧ WW.cell? ⟨w.heap.size, 2, none⟩ = some (.int .i64 xn) ∧ WW.cell? ⟨w.heap.size, 3, none⟩ = some (.string xs) ∧ WW.cell? ⟨w.heap.size, 4, none⟩ = some (.slice xA xp.length xc) ∧ WW.cell? ⟨b, 0, none⟩ = some (.int .i64 3))) (by kernel_rfl) ?_ (fun hHeld => ?_)
  · first | exact hS2 | exact hS1
  refine take_in (i := 0) (v := ?v0a) rfl (by kernel_rfl) (by kernel_rfl) (by kernel_rfl) (fun _ _ _ h => h) (by rfl) ?hy0a (by assumption) ?_
  case hy0a => intro WW hSw; (try dsimp only at hSw); go_simp; try with_reducible rfl
  try simp only [Act.put, List.setIfInBounds_toArray, List.set_cons_zero, List.set_cons_succ]
  refine one_step (i := 1) (by kernel_rfl) rfl (fun K hK => ?_)
  go_simp
  go_at_call 29
  go_loud (refine (hRt _ (by first | exact Below.refl _ _ | exact (Below.refl _ _).drew)).mono ?_)
  first
    | (intro e W2 he hb2; subst he)
    | rintro e W2 ⟨rfl, hb2⟩
  have hB2 : Below W1.heap.size W1 W2 := by first | exact hb2 | exact (Below.refl _ _).drew.trans hb2 | exact ((Below.refl _ _).drew).trans (hb2.mono (Nat.le_refl _))
  have hS2 : (fun WW => WW.cell? ⟨w.heap.size, 0, none⟩ = some (.int .i64 3) ∧ WW.cell? ⟨w.heap.size, 1, none⟩ = some (.bool xb) ∧ WW.cell? ⟨w.heap.size, 2, none⟩ = some (.int .i64 xn) ∧ WW.cell? ⟨w.heap.size, 3, none⟩ = some (.string xs) ∧ WW.cell? ⟨w.heap.size, 4, none⟩ = some (.slice xA xp.length xc) ∧ WW.cell? ⟨b, 0, none⟩ = some (.int .i64 3)) W2 := HS1.out W2 hB2
  refine hK.out _ _ ?_ (fun hHeld => ?_)
  · first | exact hS2 | exact hS1
  clear hK K
  try simp only [Act.put, List.setIfInBounds_toArray, List.set_cons_zero, List.set_cons_succ]
  refine take_in (i := 2) (v := .bool false) rfl (by kernel_rfl) (by kernel_rfl) (by kernel_rfl) (fun _ _ _ h => h) (by rfl) ?hy2a (by assumption) ?_
  case hy2a => intro WW hSw; (try dsimp only at hSw); go_simp; try with_reducible rfl
  try simp only [Act.put, List.setIfInBounds_toArray, List.set_cons_zero, List.set_cons_succ]
  refine take_in (i := 3) (v := .bool false) rfl (by kernel_rfl) (by kernel_rfl) (by kernel_rfl) (fun _ _ _ h => h) (by rfl) ?hy3a (by assumption) ?_
  case hy3a => intro WW hSw; (try dsimp only at hSw); go_simp; try with_reducible rfl
  try simp only [Act.put, List.setIfInBounds_toArray, List.set_cons_zero, List.set_cons_succ]
  refine take_in (i := 4) (v := ?v4a) rfl (by kernel_rfl) (by kernel_rfl) (by kernel_rfl) (fun _ _ _ h => h) (by rfl) ?hy4a (by assumption) ?_
  case hy4a => intro WW hSw; (try dsimp only at hSw); go_simp; try with_reducible rfl
  try simp only [Act.put, List.setIfInBounds_toArray, List.set_cons_zero, List.set_cons_succ]
  refine take_in (i := 5) (v := ?v5a) rfl (by kernel_rfl) (by kernel_rfl) (by kernel_rfl) (fun _ _ _ h => h) (by rfl) ?hy5a (by assumption) ?_
  case hy5a => intro WW hSw; (try dsimp only at hSw); go_simp; try with_reducible rfl
  try simp only [Act.put, List.setIfInBounds_toArray, List.set_cons_zero, List.set_cons_succ]
  refine take_in (i := 6) (v := ?v6a) rfl (by kernel_rfl) (by kernel_rfl) (by kernel_rfl) (fun _ _ _ h => h) (by rfl) ?hy6a (by assumption) ?_
  case hy6a => intro WW hSw; (try dsimp only at hSw); go_simp; try with_reducible rfl
  try simp only [Act.put, List.setIfInBounds_toArray, List.set_cons_zero, List.set_cons_succ]
  refine take_in (i := 7) (v := ?v7a) rfl (by kernel_rfl) (by kernel_rfl) (by kernel_rfl) (fun _ _ _ h => h) (by rfl) ?hy7a (by assumption) ?_
  case hy7a => intro WW hSw; (try dsimp only at hSw); go_simp; try with_reducible rfl
  try simp only [Act.put, List.setIfInBounds_toArray, List.set_cons_zero, List.set_cons_succ]
  refine take_in (i := 8) (v := ?v8a) rfl (by kernel_rfl) (by kernel_rfl) (by kernel_rfl) (fun _ _ _ h => h) (by rfl) ?hy8a (by assumption) ?_
  case hy8a => intro WW hSw; (try dsimp only at hSw); go_simp; try with_reducible rfl
  try simp only [Act.put, List.setIfInBounds_toArray, List.set_cons_zero, List.set_cons_succ]
  refine take_in (i := 9) (v := ?v9a) rfl (by kernel_rfl) (by kernel_rfl) (by kernel_rfl) (fun _ _ _ h => h) (by rfl) ?hy9a (by assumption) ?_
  case hy9a => intro WW hSw; (try dsimp only at hSw); go_simp; try with_reducible rfl
  try simp only [Act.put, List.setIfInBounds_toArray, List.set_cons_zero, List.set_cons_succ]
  refine take_in (i := 10) (v := .bool false) rfl (by kernel_rfl) (by kernel_rfl) (by kernel_rfl) (fun _ _ _ h => h) (by rfl) ?hy10a (by assumption) ?_
  case hy10a => intro WW hSw; (try dsimp only at hSw); have hh := hkk; go_simp; try with_reducible rfl
  try simp only [Act.put, List.setIfInBounds_toArray, List.set_cons_zero, List.set_cons_succ]
  refine take_in (i := 11) (v := .bool false) rfl (by kernel_rfl) (by kernel_rfl) (by kernel_rfl) (fun _ _ _ h => h) (by rfl) ?hy11a (by assumption) ?_
  case hy11a => intro WW hSw; (try dsimp only at hSw); go_simp; try with_reducible rfl
  try simp only [Act.put, List.setIfInBounds_toArray, List.set_cons_zero, List.set_cons_succ]
  refine take_out (i := 12) rfl (by kernel_rfl) (by kernel_rfl) (by kernel_rfl) (fun _ _ _ h => h) (by rfl) (by assumption) ?_
  try simp only [Act.put, List.setIfInBounds_toArray, List.set_cons_zero, List.set_cons_succ]
  refine take_out (i := 13) rfl (by kernel_rfl) (by kernel_rfl) (by kernel_rfl) (fun _ _ _ h => h) (by rfl) (by assumption) ?_
  try simp only [Act.put, List.setIfInBounds_toArray, List.set_cons_zero, List.set_cons_succ]
  refine take_out (i := 14) rfl (by kernel_rfl) (by kernel_rfl) (by kernel_rfl) (fun _ _ _ h => h) (by rfl) (by assumption) ?_
  try simp only [Act.put, List.setIfInBounds_toArray, List.set_cons_zero, List.set_cons_succ]
  refine take_in (i := 15) (v := .bool false) rfl (by kernel_rfl) (by kernel_rfl) (by kernel_rfl) (fun _ _ _ h => h) (by rfl) ?hy15a (by assumption) ?_
  case hy15a => intro WW hSw; (try dsimp only at hSw); go_simp; try with_reducible rfl
  try simp only [Act.put, List.setIfInBounds_toArray, List.set_cons_zero, List.set_cons_succ]
  refine take_in (i := 16) (v := .bool false) rfl (by kernel_rfl) (by kernel_rfl) (by kernel_rfl) (fun _ _ _ h => h) (by rfl) ?hy16a (by assumption) ?_
  case hy16a => intro WW hSw; (try dsimp only at hSw); go_simp; try with_reducible rfl
  try simp only [Act.put, List.setIfInBounds_toArray, List.set_cons_zero, List.set_cons_succ]
  refine wpAnyH_done (by kernel_rfl) ?_ _
  have hx2 := hx1.at_ (hB2.block _ hxl1)
  have hv2 := hv1.at_ (hB2.block _ hb1)
  have HB2 := Aside0.mk hB2
  have hxl2 := hx2.lt
  have hb2l := hv2.lt
  have hc2x := hx2.cells
  have hc2v := hv2.cells
  have hf2v := hv2.free
  have HW2 : Aside0 (Below w.heap.size w W2) := ⟨below_then HK1.out HB2.out⟩
  clear hx1 hv1 hS1 HS1 hS2 hHeld hb1 hxl1 hRt hB2 hb2
  have hV2 : VecAt W2 F b s nv bv iv dv hvv m := vecAt_at HV.out (fun j hj _ => HW2.out.block j hj)
  have hwd := word_hit F b s xs W2 ⟨_, _, _, _, _, _, hV2⟩ HIN.out HND.out HTS.out
  rw [← HIX.out] at hwd
  clear hV2
  go_upto_region 9 with (go_at_call 30; go_loud (refine hwd.mono ?_))
  (try rintro e W2b ⟨rfl, hW2b⟩; subst W2b)
  (try go_upto_region 9 with (fail))
  have HG2 : Aside0 (KeptBut (fun _ => False) w W2) := ⟨keptBut_below HW2.out⟩
  clear hwd
  have ho2 : OwnBits W2 0 nv s.nl := left_n HV.out HG2.out (fun _ _ h => h)
  have hMk : ∀ W, KeptBut (fun _ => False) W2 W → Calls Tryd.prog 31 #[nv, .int .i64 (N : Int), .bool false] W (Marks W 0 nv (s.nl ++ [false])) := fun W hW => by
    rw [HNN.out]
    exact mark_any 0 nv s.nl false W (own_at ho2 (fun j hj _ => hW.block j hj (fun f => f))) (Nat.zero_le _) (by have := HNN.out; omega)
  have HKX : Aside0 (∀ W, W2.drew.grownBy W nv.ownBlock → W.heap[w.heap.size]? = W2.heap[w.heap.size]?) := ⟨fun W h => h.block _ hxl2 (fun e => by have := own_lt HV.out.nulls e.symm; omega)⟩
  have HKV : Aside0 (∀ W, W2.drew.grownBy W nv.ownBlock → W.heap[b]? = W2.heap[b]?) := ⟨fun W h => h.block _ hb2l (fun e => (HV.out.nb _ e.symm).2.2.2.2.1 rfl)⟩
  have hS2 : (fun WW => WW.cell? ⟨w.heap.size, 0, none⟩ = some (.int .i64 3) ∧ WW.cell? ⟨b, 1, none⟩ = some (.int .i64 (N : Int))) W2 := ⟨hc2x 0, hc2v 1⟩
  refine wp_region_held_drew (S := (fun WW => WW.cell? ⟨w.heap.size, 0, none⟩ = some (.int .i64 3) ∧ WW.cell? ⟨b, 1, none⟩ = some (.int .i64 (N : Int)))) (by kernel_rfl) ?_ (fun hHeld => ?_)
  · first | exact hS4 | exact hS3 | exact hS2
  refine take_in (i := 0) (v := ?v0b) rfl (by kernel_rfl) (by kernel_rfl) (by kernel_rfl) (fun _ _ _ h => h) (by rfl) ?hy0b (by assumption) ?_
  case hy0b => intro WW hSw; (try dsimp only at hSw); go_simp; try with_reducible rfl
  try simp only [Act.put, List.setIfInBounds_toArray, List.set_cons_zero, List.set_cons_succ]
  refine take_in (i := 1) (v := ?v1b) rfl (by kernel_rfl) (by kernel_rfl) (by kernel_rfl) (fun _ _ _ h => h) (by rfl) ?hy1b (by assumption) ?_
  case hy1b => intro WW hSw; (try dsimp only at hSw); go_simp; try with_reducible rfl
  try simp only [Act.put, List.setIfInBounds_toArray, List.set_cons_zero, List.set_cons_succ]
  refine take_in (i := 2) (v := ?v2b) rfl (by kernel_rfl) (by kernel_rfl) (by kernel_rfl) (fun _ _ _ h => h) (by rfl) ?hy2b (by assumption) ?_
  case hy2b => intro WW hSw; (try dsimp only at hSw); go_simp; try with_reducible rfl
  try simp only [Act.put, List.setIfInBounds_toArray, List.set_cons_zero, List.set_cons_succ]
  refine take_in (i := 3) (v := ?v3b) rfl (by kernel_rfl) (by kernel_rfl) (by kernel_rfl) (fun _ _ _ h => h) (by rfl) ?hy3b (by assumption) ?_
  case hy3b => intro WW hSw; (try dsimp only at hSw); go_simp; try with_reducible rfl
  try simp only [Act.put, List.setIfInBounds_toArray, List.set_cons_zero, List.set_cons_succ]
  refine take_in (i := 5) (v := ?v5b) rfl (by kernel_rfl) (by kernel_rfl) (by kernel_rfl) (fun _ _ _ h => h) (by rfl) ?hy5b (by assumption) ?_
  case hy5b => intro WW hSw; (try dsimp only at hSw); go_simp; try with_reducible rfl
  try simp only [Act.put, List.setIfInBounds_toArray, List.set_cons_zero, List.set_cons_succ]
  refine take_in (i := 6) (v := ?v6b) rfl (by kernel_rfl) (by kernel_rfl) (by kernel_rfl) (fun _ _ _ h => h) (by rfl) ?hy6b (by assumption) ?_
  case hy6b => intro WW hSw; (try dsimp only at hSw); go_simp; try with_reducible rfl
  try simp only [Act.put, List.setIfInBounds_toArray, List.set_cons_zero, List.set_cons_succ]
  refine take_in (i := 7) (v := ?v7b) rfl (by kernel_rfl) (by kernel_rfl) (by kernel_rfl) (fun _ _ _ h => h) (by rfl) ?hy7b (by assumption) ?_
  case hy7b => intro WW hSw; (try dsimp only at hSw); go_simp; try with_reducible rfl
  try simp only [Act.put, List.setIfInBounds_toArray, List.set_cons_zero, List.set_cons_succ]
  refine take_in (i := 8) (v := ?v8b) rfl (by kernel_rfl) (by kernel_rfl) (by kernel_rfl) (fun _ _ _ h => h) (by rfl) ?hy8b (by assumption) ?_
  case hy8b => intro WW hSw; (try dsimp only at hSw); go_simp; try with_reducible rfl
  try simp only [Act.put, List.setIfInBounds_toArray, List.set_cons_zero, List.set_cons_succ]
  refine take_in (i := 9) (v := ?v9b) rfl (by kernel_rfl) (by kernel_rfl) (by kernel_rfl) (fun _ _ _ h => h) (by rfl) ?hy9b (by assumption) ?_
  case hy9b => intro WW hSw; (try dsimp only at hSw); go_simp; try with_reducible rfl
  try simp only [Act.put, List.setIfInBounds_toArray, List.set_cons_zero, List.set_cons_succ]
  refine take_in (i := 10) (v := ?v10b) rfl (by kernel_rfl) (by kernel_rfl) (by kernel_rfl) (fun _ _ _ h => h) (by rfl) ?hy10b (by assumption) ?_
  case hy10b => intro WW hSw; (try dsimp only at hSw); go_simp; try with_reducible rfl
  try simp only [Act.put, List.setIfInBounds_toArray, List.set_cons_zero, List.set_cons_succ]
  refine take_in (i := 11) (v := .bool false) rfl (by kernel_rfl) (by kernel_rfl) (by kernel_rfl) (fun _ _ _ h => h) (by rfl) ?hy11b (by assumption) ?_
  case hy11b => intro WW hSw; (try dsimp only at hSw); have hh := hx0; go_simp; try with_reducible rfl
  try simp only [Act.put, List.setIfInBounds_toArray, List.set_cons_zero, List.set_cons_succ]
  refine one_step (i := 4) (by kernel_rfl) rfl (fun K hK => ?_)
  go_simp
  refine hK.out _ _ ?_ (fun hHeld => ?_)
  · first | exact hS4 | exact hS3 | exact hS2
  clear hK K
  try simp only [Act.put, List.setIfInBounds_toArray, List.set_cons_zero, List.set_cons_succ]
  refine one_step (i := 12) (by kernel_rfl) rfl (fun K hK => ?_)
  go_simp
  go_at_call 31
  go_loud (refine (hMk _ (by first | exact KeptBut.refl _ _ | exact keptBut_drew (KeptBut.refl _ _))).mono ?_)
  rintro e W3 ⟨v3, rfl, ho3, hg3, hm3⟩
  have hx3 := hx2.at_ (HKX.out W3 hg3)
  have hv3 := hv2.at_ (HKV.out W3 hg3)
  obtain ⟨A3, c3, rfl, _, _⟩ := own_words ho3
  have hc3x := hx3.cells
  have hc3v := hv3.cells
  have hf3v := hv3.free
  have hS3 : (fun WW => WW.cell? ⟨w.heap.size, 0, none⟩ = some (.int .i64 3) ∧ WW.cell? ⟨b, 1, none⟩ = some (.int .i64 (N : Int))) W3 := ⟨hc3x 0, hc3v 1⟩
  refine hK.out _ _ ?_ (fun hHeld => ?_)
  · first | exact hS4 | exact hS3 | exact hS2
  clear hK K
  try simp only [Act.put, List.setIfInBounds_toArray, List.set_cons_zero, List.set_cons_succ]
  refine take_in (i := 13) (v := ?v13b) rfl (by kernel_rfl) (by kernel_rfl) (by kernel_rfl) (fun _ _ _ h => h) (by rfl) ?hy13b (by assumption) ?_
  case hy13b => intro WW hSw; (try dsimp only at hSw); go_simp; try with_reducible rfl
  try simp only [Act.put, List.setIfInBounds_toArray, List.set_cons_zero, List.set_cons_succ]
  refine take_in (i := 14) (v := ?v14b) rfl (by kernel_rfl) (by kernel_rfl) (by kernel_rfl) (fun _ _ _ h => h) (by rfl) ?hy14b (by assumption) ?_
  case hy14b => intro WW hSw; (try dsimp only at hSw); go_simp; try with_reducible rfl
  try simp only [Act.put, List.setIfInBounds_toArray, List.set_cons_zero, List.set_cons_succ]
  refine one_step (i := 15) (by kernel_rfl) rfl (fun K hK => ?_)
  go_simp
  obtain ⟨W4, hW4⟩ : ∃ W4, W4 = W3.setCell ⟨b, 2, none⟩ (.slice A3 (packW (s.nl ++ [false])).length c3) := ⟨_, rfl⟩
  rw [← hW4]
  have hv4 : VecB W4 b #[.int .i64 3, .int .i64 (N : Int), .slice A3 (packW (s.nl ++ [false])).length c3, bv, iv, dv, .map (some m), hvv] := by rw [hW4]; exact hv3.put 2 _
  have hx4 : Box W4 w.heap.size #[.int .i64 3, .bool xb, .int .i64 xn, .string xs, .slice xA xp.length xc] := by rw [hW4]; exact hx3.at_ (heap_setCell_other _ _ _ _ (by simp; omega))
  have hc4x := hx4.cells
  have hc4v := hv4.cells
  have hS4 : (fun WW => WW.cell? ⟨w.heap.size, 0, none⟩ = some (.int .i64 3) ∧ WW.cell? ⟨b, 1, none⟩ = some (.int .i64 (N : Int))) W4 := ⟨hc4x 0, hc4v 1⟩
  refine hK.out _ _ ?_ (fun hHeld => ?_)
  · first | exact hS4 | exact hS3 | exact hS2
  clear hK K
  try simp only [Act.put, List.setIfInBounds_toArray, List.set_cons_zero, List.set_cons_succ]
  refine wpAnyH_done (by kernel_rfl) ?_ _
  have HB3 := Aside0.mk (And.intro ho3 (And.intro hg3 hm3))
  have HK24 : Aside0 (KeptBut (fun j => j = b ∨ nv.ownBlock = some j) W2 W4) := ⟨by
    have k2 : KeptBut (fun j => j = b ∨ nv.ownBlock = some j) W2 W3 := keptBut_grown_d hg3 (fun j e => Or.inr e)
    rw [hW4]
    exact k2.trans (keptBut_set W3 ⟨b, 2, none⟩ _ (.inl rfl)) (fun _ _ h => h)⟩
  have HK4 : Aside0 (KeptBut (fun j => False ∨ (j = b ∨ nv.ownBlock = some j)) w W4) := ⟨(HG2.out.mono (fun j _ h => Or.inl h)).trans HK24.out (fun j _ h => Or.inr h)⟩
  have HO4 : Aside0 (OwnBits W4 0 (.slice A3 (packW (s.nl ++ [false])).length c3) (s.nl ++ [false])) := ⟨by
    rw [hW4]
    refine own_at ho3 (fun j hj e => heap_setCell_other _ _ _ _ (fun h => ?_))
    rcases hm3 with h1 | ⟨q, h1, h2⟩
    · rw [h1] at e; exact (HV.out.nb j e).2.2.2.2.1 h
    · rw [h1] at e; cases e
      have h3 : W2.heap.size ≤ j := h2
      have h4 : j = b := h
      omega⟩
  have HS4 : Aside0 (w.heap.size ≤ W4.heap.size) := ⟨HK4.out.size⟩
  have HS2 : Aside0 (w.heap.size ≤ W2.heap.size ∧ W2.heap.size ≤ W4.heap.size) := ⟨HG2.out.size, HK24.out.size⟩
  have HN3 : Aside0 (∀ j, Value.ownBlock (.slice A3 (packW (s.nl ++ [false])).length c3) = some j → j < W4.heap.size) := ⟨fun j e => own_lt HO4.out e⟩
  have HM3 : Aside0 (InZ (fun j => W2.heap.size ≤ j ∧ j < W4.heap.size) nv (.slice A3 (packW (s.nl ++ [false])).length c3)) := ⟨by
    rcases hm3 with h1 | ⟨q, h1, h2⟩
    · exact .inl h1
    · exact .inr ⟨q, h1, h2, HN3.out q h1⟩⟩
  have hc4v2 := hv4.cells
  have hc4x2 := hx4.cells
  have hf4v := hv4.free
  have hb4l := hv4.lt
  have hxl4 := hx4.lt
  clear hW4 hx3 hv3 hc3x hc3v hf3v hS3 hS4 hHeld hc4x hx2 hv2 hc2x hc2v hf2v hMk HKX HKV hS2 ho2 ho3 hg3 hm3 hxl2
  have hi4 : W4.ownsRow 0 2 1 iv s.il.length (numCells s.il) := left_i HV.out HK4.out (fun j e h => by
    rcases h with h | h | h
    · exact h
    · exact (HV.out.ib j e).2.2.1 h
    · exact (HV.out.nb j h).2.1 e)
  clear hx4 hc4x2 hxl4
  go_wp2_with (at_builtin; go_loud (refine append_i64 rfl (.tmp 92) (.tmp 94) rfl iv s.il.length (numCells s.il) rfl hi4 ix rfl (by have := HIL.out; have := HNN.out; omega) ?_))
  intro v5 W5 ho5 hg5 hm5
  obtain ⟨A5, c5, rfl, hl5⟩ := row_shape ho5
  have hv5 := hv4.at_ (hg5.block b hb4l (fun e => (HV.out.ib _ e.symm).2.2.1 rfl))
  have HB5 := Aside0.mk (And.intro ho5 (And.intro hg5 hm5))
  have hc5v := hv5.cells
  have hf5v := hv5.free
  clear ho5 hg5 hm5 hv4 hc4v hc4v2 hf4v hb4l hi4
  go_upto_region 13 with (fail)
  obtain ⟨W6, hW6⟩ : ∃ W6, W6 = W5.setCell ⟨b, 4, none⟩ (.slice A5 (s.il.length + 1) c5) := ⟨_, rfl⟩
  rw [← hW6]
  have HW6 := Aside0.mk hW6
  clear hW6
  have hv6 : VecB W6 b #[.int .i64 3, .int .i64 (N : Int), .slice A3 (packW (s.nl ++ [false])).length c3, bv, .slice A5 (s.il.length + 1) c5, dv, .map (some m), hvv] := by rw [HW6.out]; exact hv5.put 4 _
  have hc6v := hv6.cells
  have hf6v := hv6.free
  have hNw : RowKit.wrap64 ((N : Int) + 1) = (N : Int) + 1 := by unfold RowKit.wrap64; omega
  clear hv5 hc5v hf5v
  go_wp2
  go_ret
  obtain ⟨W7, hW7⟩ : ∃ W7, W7 = W6.setCell ⟨b, 1, none⟩ (.int .i64 ((N : Int) + 1)) := ⟨_, rfl⟩
  rw [← hW7]
  have hV := HV.out
  have hW6 := HW6.out
  have hh7 : ∀ j, j ≠ b → W7.heap[j]? = W5.heap[j]? := fun j hj => by rw [hW7, heap_setCell_other _ _ _ _ hj, hW6, heap_setCell_other _ _ _ _ hj]
  obtain ⟨ho5, hg5, hm5⟩ := HB5.out
  have hK27 : KeptBut (fun j => (j = b ∨ nv.ownBlock = some j) ∨ iv.ownBlock = some j) W2 W7 := by
    have k1 := HK24.out.mono (G := fun j => (j = b ∨ nv.ownBlock = some j) ∨ iv.ownBlock = some j) (fun j _ h => Or.inl h)
    have k2 : KeptBut (fun j => (j = b ∨ nv.ownBlock = some j) ∨ iv.ownBlock = some j) W4 W5 := keptBut_grown hg5 (fun j e => Or.inr e)
    rw [hW7, hW6]
    exact ((k1.trans k2 (fun _ _ h => h)).trans (keptBut_set W5 ⟨b, 4, none⟩ _ (.inl (.inl rfl))) (fun _ _ h => h)).trans (keptBut_set _ ⟨b, 1, none⟩ _ (.inl (.inl rfl))) (fun _ _ h => h)
  have hK7 : KeptBut (fun j => False ∨ ((j = b ∨ nv.ownBlock = some j) ∨ iv.ownBlock = some j)) w W7 := (HG2.out.mono (fun j _ h => Or.inl h)).trans hK27 (fun j _ h => Or.inr h)
  have hs2 := HS2.out
  have b3 : ∀ j, Value.ownBlock (.slice A3 (packW (s.nl ++ [false])).length c3) = some j → j ≠ b ∧ iv.ownBlock ≠ some j := fun j e => by
    rcases HM3.out with h1 | ⟨q, h1, h2⟩
    · rw [h1] at e
      exact ⟨(hV.nb j e).2.2.2.2.1, (hV.nb j e).2.1⟩
    · rw [h1] at e
      cases e
      exact ⟨by omega, fun e => by have := own_lt hV.ints e; omega⟩
  have b5 : ∀ j, Value.ownBlock (.slice A5 (s.il.length + 1) c5) = some j → j ≠ b := fun j e => by
    rcases hm5 with h1 | ⟨q, h1, h2⟩
    · rw [h1] at e
      exact (hV.ib j e).2.2.1
    · rw [h1] at e
      cases e
      omega
  refine ⟨rfl, ⟨.slice A3 (packW (s.nl ++ [false])).length c3, bv, .slice A5 (s.il.length + 1) c5, dv, hvv, m, vec_step (s' := { s with nl := s.nl ++ [false], il := s.il ++ [ix] }) hV (fun j => W2.heap.size ≤ j ∧ j < W4.heap.size) (fun _ => False) (fun j => W4.heap.size ≤ j) (fun _ => False) (fun _ => False) ?_ ?_ (left_b (s := s) hV hK7 ?_) ?_ (left_d (s := s) hV hK7 ?_) (left_h (s := s) hV hK7 ?_) (left_m (s := s) hV hK7 ?_) HM3.out (.inl rfl) ?_ (.inl rfl) (.inl rfl) ?_ ?_⟩, hK7.mono (fun j _ h => ?_)⟩
  · rw [show ((s.nl ++ [false]).length : Int) = (N : Int) + 1 by rw [List.length_append]; have := HNN.out; simp; omega, HSK.out, hW7]
    exact hv6.put 1 _
  · refine own_at HO4.out (fun j hj e => ?_)
    rw [hh7 j (b3 j e).1]
    exact hg5.block j hj (fun h => (b3 j e).2 h.symm)
  · rintro j e (h | ((h | h) | h))
    · exact h
    · exact (hV.bb j e).2.2.2.1 h
    · exact (hV.nb j h).1 e
    · exact (hV.bb j e).1 h
  · rw [List.length_append, numCells_snoc]
    exact own_at ho5 (fun j hj e => hh7 j (b5 j e))
  · rintro j e (h | ((h | h) | h))
    · exact h
    · exact (hV.db j e).2.1 h
    · exact (hV.nb j h).2.2.1 e
    · exact (hV.ib j h).1 e
  · rintro j e (h | ((h | h) | h))
    · exact h
    · exact (hV.hb j e).1 h
    · exact (hV.nb j h).2.2.2.1 e
    · exact (hV.ib j h).2.1 e
  · rintro (h | ((h | h) | h))
    · exact h
    · exact hV.bm h.symm
    · exact (hV.nb m h).2.2.2.2.2 rfl
    · exact (hV.ib m h).2.2.2 rfl
  · rcases hm5 with h1 | ⟨q, h1, h2⟩
    · exact .inl h1
    · exact .inr ⟨q, h1, h2⟩
  · rintro j (h | h | h | h | h)
    all_goals first | exact h.elim | omega
  · intro j
    refine ⟨fun h => ⟨fun h => h, fun h => ?_, fun h => ?_, fun h => ?_⟩, fun h => h.elim, fun h => ⟨fun h => ?_, fun h => ?_⟩, fun h => (fun h => ?_)⟩
    all_goals first | exact h.elim | omega
  · rcases h with h | ((h | h) | h)
    · exact h.elim
    · exact h ▸ hV.fb
    · exact hV.fn j h
    · exact hV.fi j h
set_option maxRecDepth 100000 in
set_option maxHeartbeats 12800000 in
theorem app_t_new (xn : Int) (xb : Bool) (xs : ByteArray) (xA : Option Addr) (xp : List Int) (xc : Nat) (F : Nat → Prop) (b : Nat) (s : VS) (w : World) (hv : VecIs w F b s) (hsk : s.k = 3) (hr : ReadsI w xA xp) (hR : rightB 3 xb xn xs xp = true) (hsz : s.nl.length ≤ 8796093022207) (hil : s.il.length = s.nl.length) (hts : xs.size ≤ 4096) (hdl : s.dl.length ≤ s.nl.length) (hin : ¬ xs.data.toList ∈ keysL s.dl) :
    Calls Tryd.prog 12 #[.pointer (some ⟨b, 0, none⟩), .agg #[.int .i64 3, .bool xb, .int .i64 xn, .string xs, .slice xA xp.length xc]] w fun e w' => e = .returned (.int .i64 0) ∧ VecIs w' (orNew F w) b { s with nl := s.nl ++ [false], il := s.il ++ [(s.dl.length : Int)], dl := s.dl ++ [xs] } ∧ KeptBut F w w' := by
  obtain ⟨nv, bv, iv, dv, hvv, m, hV⟩ := hv
  obtain ⟨W1, hW1⟩ : ∃ W1, W1 = w.alloc (.cells #[.int .i64 3, .bool xb, .int .i64 xn, .string xs, .slice xA xp.length xc] 39) := ⟨_, rfl⟩
  have hRt : ∀ W, Below W1.heap.size W1 W → Calls Tryd.prog 29 #[.agg #[.int .i64 3, .bool xb, .int .i64 xn, .string xs, .slice xA xp.length xc]] W fun e w' => e = .returned (.bool true) ∧ Below W.heap.size W w' := fun W hW => by
    have h := right_any 3 xn xb xs xA xp xc W ((hr.below (hW1 ▸ below_more (Below.refl _ _) _)).below hW)
    rw [hR] at h
    exact h
  have hbx := hV.box
  have hbw : b < w.heap.size := hbx.lt
  obtain ⟨N, hN⟩ : ∃ N, N = s.nl.length := ⟨_, rfl⟩
  rw [hsk, ← hN] at hbx
  have hN9 : N ≤ 8796093022207 := by omega
  have hx1 : Box W1 w.heap.size #[.int .i64 3, .bool xb, .int .i64 xn, .string xs, .slice xA xp.length xc] := by rw [hW1]; exact Box.new w _
  have hv1 : VecB W1 b #[.int .i64 3, .int .i64 (N : Int), nv, bv, iv, dv, .map (some m), hvv] := hbx.at_ (by rw [hW1]; exact heap_alloc_old w _ hbw)
  have hb1 : b < W1.heap.size := hv1.lt
  have hxl1 : w.heap.size < W1.heap.size := hx1.lt
  have HS1 : Aside0 (∀ W, Below W1.heap.size W1 W → (fun WW => WW.cell? ⟨w.heap.size, 0, none⟩ = some (.int .i64 3) ∧ WW.cell? ⟨w.heap.size, 1, none⟩ = some (.bool xb) ∧ WW.cell? ⟨w.heap.size, 2, none⟩ = some (.int .i64 xn) ∧ WW.cell? ⟨w.heap.size, 3, none⟩ = some (.string xs) ∧ WW.cell? ⟨w.heap.size, 4, none⟩ = some (.slice xA xp.length xc) ∧ WW.cell? ⟨b, 0, none⟩ = some (.int .i64 3)) W) := ⟨fun W h => by
    have e1 := (hx1.at_ (h.block _ hxl1)).cells
    have e2 := (hv1.at_ (h.block _ hb1)).cells
    exact ⟨e1 0, e1 1, e1 2, e1 3, e1 4, e2 0⟩⟩
  have hS1 : (fun WW => WW.cell? ⟨w.heap.size, 0, none⟩ = some (.int .i64 3) ∧ WW.cell? ⟨w.heap.size, 1, none⟩ = some (.bool xb) ∧ WW.cell? ⟨w.heap.size, 2, none⟩ = some (.int .i64 xn) ∧ WW.cell? ⟨w.heap.size, 3, none⟩ = some (.string xs) ∧ WW.cell? ⟨w.heap.size, 4, none⟩ = some (.slice xA xp.length xc) ∧ WW.cell? ⟨b, 0, none⟩ = some (.int .i64 3)) W1 := HS1.out W1 (Below.refl _ _)
  have HK1 : Aside0 (Below w.heap.size w W1) := ⟨by rw [hW1]; exact below_more (Below.refl _ _) _⟩
  have hkk : ((3 : Int) != 3) = false := by decide
  have hx0 : ((3 : Int) == 0) = false := by decide
  have HIL := Aside0.mk hil
  have HTS : Aside0 (xs.size ≤ maxLen) := ⟨by unfold maxLen; omega⟩
  have HDL : Aside0 (s.dl.length ≤ 8796093022207) := ⟨by omega⟩
  have HIN := Aside0.mk hin
  clear hil hts hdl hin
  have HV := Aside0.mk hV
  have HSK := Aside0.mk hsk
  have HNN := Aside0.mk hN
  have HRX := Aside0.mk hr
  clear hV hsk hN hr hR hsz hbx
  go_enter Tryd.func12, Tryd.ntmps12
  go_upto_region 1 with (fail)
  rw [← hW1]
  clear hW1
  refine wp_region_held_drew (S := (fun WW => WW.cell? ⟨w.heap.size, 0, none⟩ = some (.int .i64 3) ∧ WW.cell? ⟨w.heap.size, 1, none⟩ = some (.bool xb) ∧ WW.cell? ⟨w.heap.size, 2, none⟩ = some (.int .i64 xn) ∧ WW.cell? ⟨w.heap.size, 3, none⟩ = some (.string xs) ∧ WW.cell? ⟨w.heap.size, 4, none⟩ = some (.slice xA xp.length xc) ∧ WW.cell? ⟨b, 0, none⟩ = some (.int .i64 3))) (by kernel_rfl) ?_ (fun hHeld => ?_)
  · first | exact hS2 | exact hS1
  refine take_in (i := 0) (v := ?v0a) rfl (by kernel_rfl) (by kernel_rfl) (by kernel_rfl) (fun _ _ _ h => h) (by rfl) ?hy0a (by assumption) ?_
  case hy0a => intro WW hSw; (try dsimp only at hSw); go_simp; try with_reducible rfl
  try simp only [Act.put, List.setIfInBounds_toArray, List.set_cons_zero, List.set_cons_succ]
  refine one_step (i := 1) (by kernel_rfl) rfl (fun K hK => ?_)
  go_simp
  go_at_call 29
  go_loud (refine (hRt _ (by first | exact Below.refl _ _ | exact (Below.refl _ _).drew)).mono ?_)
  first
    | (intro e W2 he hb2; subst he)
    | rintro e W2 ⟨rfl, hb2⟩
  have hB2 : Below W1.heap.size W1 W2 := by first | exact hb2 | exact (Below.refl _ _).drew.trans hb2 | exact ((Below.refl _ _).drew).trans (hb2.mono (Nat.le_refl _))
  have hS2 : (fun WW => WW.cell? ⟨w.heap.size, 0, none⟩ = some (.int .i64 3) ∧ WW.cell? ⟨w.heap.size, 1, none⟩ = some (.bool xb) ∧ WW.cell? ⟨w.heap.size, 2, none⟩ = some (.int .i64 xn) ∧ WW.cell? ⟨w.heap.size, 3, none⟩ = some (.string xs) ∧ WW.cell? ⟨w.heap.size, 4, none⟩ = some (.slice xA xp.length xc) ∧ WW.cell? ⟨b, 0, none⟩ = some (.int .i64 3)) W2 := HS1.out W2 hB2
  refine hK.out _ _ ?_ (fun hHeld => ?_)
  · first | exact hS2 | exact hS1
  clear hK K
  try simp only [Act.put, List.setIfInBounds_toArray, List.set_cons_zero, List.set_cons_succ]
  refine take_in (i := 2) (v := .bool false) rfl (by kernel_rfl) (by kernel_rfl) (by kernel_rfl) (fun _ _ _ h => h) (by rfl) ?hy2a (by assumption) ?_
  case hy2a => intro WW hSw; (try dsimp only at hSw); go_simp; try with_reducible rfl
  try simp only [Act.put, List.setIfInBounds_toArray, List.set_cons_zero, List.set_cons_succ]
  refine take_in (i := 3) (v := .bool false) rfl (by kernel_rfl) (by kernel_rfl) (by kernel_rfl) (fun _ _ _ h => h) (by rfl) ?hy3a (by assumption) ?_
  case hy3a => intro WW hSw; (try dsimp only at hSw); go_simp; try with_reducible rfl
  try simp only [Act.put, List.setIfInBounds_toArray, List.set_cons_zero, List.set_cons_succ]
  refine take_in (i := 4) (v := ?v4a) rfl (by kernel_rfl) (by kernel_rfl) (by kernel_rfl) (fun _ _ _ h => h) (by rfl) ?hy4a (by assumption) ?_
  case hy4a => intro WW hSw; (try dsimp only at hSw); go_simp; try with_reducible rfl
  try simp only [Act.put, List.setIfInBounds_toArray, List.set_cons_zero, List.set_cons_succ]
  refine take_in (i := 5) (v := ?v5a) rfl (by kernel_rfl) (by kernel_rfl) (by kernel_rfl) (fun _ _ _ h => h) (by rfl) ?hy5a (by assumption) ?_
  case hy5a => intro WW hSw; (try dsimp only at hSw); go_simp; try with_reducible rfl
  try simp only [Act.put, List.setIfInBounds_toArray, List.set_cons_zero, List.set_cons_succ]
  refine take_in (i := 6) (v := ?v6a) rfl (by kernel_rfl) (by kernel_rfl) (by kernel_rfl) (fun _ _ _ h => h) (by rfl) ?hy6a (by assumption) ?_
  case hy6a => intro WW hSw; (try dsimp only at hSw); go_simp; try with_reducible rfl
  try simp only [Act.put, List.setIfInBounds_toArray, List.set_cons_zero, List.set_cons_succ]
  refine take_in (i := 7) (v := ?v7a) rfl (by kernel_rfl) (by kernel_rfl) (by kernel_rfl) (fun _ _ _ h => h) (by rfl) ?hy7a (by assumption) ?_
  case hy7a => intro WW hSw; (try dsimp only at hSw); go_simp; try with_reducible rfl
  try simp only [Act.put, List.setIfInBounds_toArray, List.set_cons_zero, List.set_cons_succ]
  refine take_in (i := 8) (v := ?v8a) rfl (by kernel_rfl) (by kernel_rfl) (by kernel_rfl) (fun _ _ _ h => h) (by rfl) ?hy8a (by assumption) ?_
  case hy8a => intro WW hSw; (try dsimp only at hSw); go_simp; try with_reducible rfl
  try simp only [Act.put, List.setIfInBounds_toArray, List.set_cons_zero, List.set_cons_succ]
  refine take_in (i := 9) (v := ?v9a) rfl (by kernel_rfl) (by kernel_rfl) (by kernel_rfl) (fun _ _ _ h => h) (by rfl) ?hy9a (by assumption) ?_
  case hy9a => intro WW hSw; (try dsimp only at hSw); go_simp; try with_reducible rfl
  try simp only [Act.put, List.setIfInBounds_toArray, List.set_cons_zero, List.set_cons_succ]
  refine take_in (i := 10) (v := .bool false) rfl (by kernel_rfl) (by kernel_rfl) (by kernel_rfl) (fun _ _ _ h => h) (by rfl) ?hy10a (by assumption) ?_
  case hy10a => intro WW hSw; (try dsimp only at hSw); have hh := hkk; go_simp; try with_reducible rfl
  try simp only [Act.put, List.setIfInBounds_toArray, List.set_cons_zero, List.set_cons_succ]
  refine take_in (i := 11) (v := .bool false) rfl (by kernel_rfl) (by kernel_rfl) (by kernel_rfl) (fun _ _ _ h => h) (by rfl) ?hy11a (by assumption) ?_
  case hy11a => intro WW hSw; (try dsimp only at hSw); go_simp; try with_reducible rfl
  try simp only [Act.put, List.setIfInBounds_toArray, List.set_cons_zero, List.set_cons_succ]
  refine take_out (i := 12) rfl (by kernel_rfl) (by kernel_rfl) (by kernel_rfl) (fun _ _ _ h => h) (by rfl) (by assumption) ?_
  try simp only [Act.put, List.setIfInBounds_toArray, List.set_cons_zero, List.set_cons_succ]
  refine take_out (i := 13) rfl (by kernel_rfl) (by kernel_rfl) (by kernel_rfl) (fun _ _ _ h => h) (by rfl) (by assumption) ?_
  try simp only [Act.put, List.setIfInBounds_toArray, List.set_cons_zero, List.set_cons_succ]
  refine take_out (i := 14) rfl (by kernel_rfl) (by kernel_rfl) (by kernel_rfl) (fun _ _ _ h => h) (by rfl) (by assumption) ?_
  try simp only [Act.put, List.setIfInBounds_toArray, List.set_cons_zero, List.set_cons_succ]
  refine take_in (i := 15) (v := .bool false) rfl (by kernel_rfl) (by kernel_rfl) (by kernel_rfl) (fun _ _ _ h => h) (by rfl) ?hy15a (by assumption) ?_
  case hy15a => intro WW hSw; (try dsimp only at hSw); go_simp; try with_reducible rfl
  try simp only [Act.put, List.setIfInBounds_toArray, List.set_cons_zero, List.set_cons_succ]
  refine take_in (i := 16) (v := .bool false) rfl (by kernel_rfl) (by kernel_rfl) (by kernel_rfl) (fun _ _ _ h => h) (by rfl) ?hy16a (by assumption) ?_
  case hy16a => intro WW hSw; (try dsimp only at hSw); go_simp; try with_reducible rfl
  try simp only [Act.put, List.setIfInBounds_toArray, List.set_cons_zero, List.set_cons_succ]
  refine wpAnyH_done (by kernel_rfl) ?_ _
  have hx2 := hx1.at_ (hB2.block _ hxl1)
  have hv2 := hv1.at_ (hB2.block _ hb1)
  have HB2 := Aside0.mk hB2
  have hxl2 := hx2.lt
  have hb2l := hv2.lt
  have hc2x := hx2.cells
  have hc2v := hv2.cells
  have hf2v := hv2.free
  have HW2 : Aside0 (Below w.heap.size w W2) := ⟨below_then HK1.out HB2.out⟩
  clear hx1 hv1 hS1 HS1 hS2 hHeld hb1 hxl1 hRt hB2 hb2
  have hV2 : VecAt W2 F b s nv bv iv dv hvv m := vecAt_at HV.out (fun j hj _ => HW2.out.block j hj)
  have hwd := word_new F b s nv bv iv dv hvv m xs W2 hV2 HIN.out HTS.out HDL.out
  rw [HSK.out, ← HNN.out] at hwd
  clear hV2
  obtain ⟨L, hL⟩ : ∃ L, L = s.dl.length := ⟨_, rfl⟩
  rw [← hL] at hwd
  have HLL := Aside0.mk hL
  clear hL
  go_upto_region 8 with (fail)
  go_wp2_with (go_at_call 30; go_loud (refine hwd.mono ?_))
  rintro e W2p ⟨rfl, dv2, hv2p, hod2, hom2, hmd2, hkd2⟩
  obtain ⟨Ad, cd, rfl, hL9⟩ := row_shape hod2
  obtain ⟨P5, hP5⟩ : ∃ P5, P5 = s.dl ++ [xs] := ⟨_, rfl⟩
  rw [← hP5] at hv2p hod2 hom2 hmd2
  have hx2p := hx2.at_ (hkd2.block _ hxl2 (fun h => by
    rcases h with h | h | h
    · omega
    · have := own_lt HV.out.dict h; omega
    · have := HV.out.known.lt; omega))
  have HP5 := Aside0.mk hP5
  have HOD := Aside0.mk hod2
  have HOM := Aside0.mk hom2
  have HMD : Aside0 (InZ (fun j => w.heap.size ≤ j ∧ j < W2p.heap.size) dv (.slice Ad P5.length cd)) := ⟨by
    rcases hmd2 with h1 | ⟨q, h1, h2, h3⟩
    · exact .inl h1
    · exact .inr ⟨q, h1, Nat.le_trans HW2.out.size h2, h3⟩⟩
  have HG2 : Aside0 (KeptBut (fun j => (j = b ∨ dv.ownBlock = some j ∨ j = m)) w W2p) := ⟨by
    have k1 : KeptBut (fun j => (j = b ∨ dv.ownBlock = some j ∨ j = m)) w W2 := keptBut_below HW2.out
    exact k1.trans hkd2 (fun _ _ h => h)⟩
  clear hx2 hv2 hxl2 hb2l hc2x hc2v hf2v hwd hod2 hom2 hmd2 hkd2 hP5
  have hx2 := hx2p
  have hv2 := hv2p
  clear hx2p hv2p
  have hxl2 := hx2.lt
  have hb2l := hv2.lt
  have hc2x := hx2.cells
  have hc2v := hv2.cells
  have hf2v := hv2.free
  go_upto_region 9 with (fail)
  have ho2 : OwnBits W2p 0 nv s.nl := left_n HV.out HG2.out (fun j e h => by rcases h with h | h | h; exact (HV.out.nb j e).2.2.2.2.1 h; exact (HV.out.nb j e).2.2.1 h; exact (HV.out.nb j e).2.2.2.2.2 h)
  have hMk : ∀ W, KeptBut (fun _ => False) W2p W → Calls Tryd.prog 31 #[nv, .int .i64 (N : Int), .bool false] W (Marks W 0 nv (s.nl ++ [false])) := fun W hW => by
    rw [HNN.out]
    exact mark_any 0 nv s.nl false W (own_at ho2 (fun j hj _ => hW.block j hj (fun f => f))) (Nat.zero_le _) (by have := HNN.out; omega)
  have HKX : Aside0 (∀ W, W2p.drew.grownBy W nv.ownBlock → W.heap[w.heap.size]? = W2p.heap[w.heap.size]?) := ⟨fun W h => h.block _ hxl2 (fun e => by have := own_lt HV.out.nulls e.symm; omega)⟩
  have HKV : Aside0 (∀ W, W2p.drew.grownBy W nv.ownBlock → W.heap[b]? = W2p.heap[b]?) := ⟨fun W h => h.block _ hb2l (fun e => (HV.out.nb _ e.symm).2.2.2.2.1 rfl)⟩
  have hS2 : (fun WW => WW.cell? ⟨w.heap.size, 0, none⟩ = some (.int .i64 3) ∧ WW.cell? ⟨b, 1, none⟩ = some (.int .i64 (N : Int))) W2p := ⟨hc2x 0, hc2v 1⟩
  refine wp_region_held_drew (S := (fun WW => WW.cell? ⟨w.heap.size, 0, none⟩ = some (.int .i64 3) ∧ WW.cell? ⟨b, 1, none⟩ = some (.int .i64 (N : Int)))) (by kernel_rfl) ?_ (fun hHeld => ?_)
  · first | exact hS4 | exact hS3 | exact hS2
  refine take_in (i := 0) (v := ?v0b) rfl (by kernel_rfl) (by kernel_rfl) (by kernel_rfl) (fun _ _ _ h => h) (by rfl) ?hy0b (by assumption) ?_
  case hy0b => intro WW hSw; (try dsimp only at hSw); go_simp; try with_reducible rfl
  try simp only [Act.put, List.setIfInBounds_toArray, List.set_cons_zero, List.set_cons_succ]
  refine take_in (i := 1) (v := ?v1b) rfl (by kernel_rfl) (by kernel_rfl) (by kernel_rfl) (fun _ _ _ h => h) (by rfl) ?hy1b (by assumption) ?_
  case hy1b => intro WW hSw; (try dsimp only at hSw); go_simp; try with_reducible rfl
  try simp only [Act.put, List.setIfInBounds_toArray, List.set_cons_zero, List.set_cons_succ]
  refine take_in (i := 2) (v := ?v2b) rfl (by kernel_rfl) (by kernel_rfl) (by kernel_rfl) (fun _ _ _ h => h) (by rfl) ?hy2b (by assumption) ?_
  case hy2b => intro WW hSw; (try dsimp only at hSw); go_simp; try with_reducible rfl
  try simp only [Act.put, List.setIfInBounds_toArray, List.set_cons_zero, List.set_cons_succ]
  refine take_in (i := 3) (v := ?v3b) rfl (by kernel_rfl) (by kernel_rfl) (by kernel_rfl) (fun _ _ _ h => h) (by rfl) ?hy3b (by assumption) ?_
  case hy3b => intro WW hSw; (try dsimp only at hSw); go_simp; try with_reducible rfl
  try simp only [Act.put, List.setIfInBounds_toArray, List.set_cons_zero, List.set_cons_succ]
  refine take_in (i := 5) (v := ?v5b) rfl (by kernel_rfl) (by kernel_rfl) (by kernel_rfl) (fun _ _ _ h => h) (by rfl) ?hy5b (by assumption) ?_
  case hy5b => intro WW hSw; (try dsimp only at hSw); go_simp; try with_reducible rfl
  try simp only [Act.put, List.setIfInBounds_toArray, List.set_cons_zero, List.set_cons_succ]
  refine take_in (i := 6) (v := ?v6b) rfl (by kernel_rfl) (by kernel_rfl) (by kernel_rfl) (fun _ _ _ h => h) (by rfl) ?hy6b (by assumption) ?_
  case hy6b => intro WW hSw; (try dsimp only at hSw); go_simp; try with_reducible rfl
  try simp only [Act.put, List.setIfInBounds_toArray, List.set_cons_zero, List.set_cons_succ]
  refine take_in (i := 7) (v := ?v7b) rfl (by kernel_rfl) (by kernel_rfl) (by kernel_rfl) (fun _ _ _ h => h) (by rfl) ?hy7b (by assumption) ?_
  case hy7b => intro WW hSw; (try dsimp only at hSw); go_simp; try with_reducible rfl
  try simp only [Act.put, List.setIfInBounds_toArray, List.set_cons_zero, List.set_cons_succ]
  refine take_in (i := 8) (v := ?v8b) rfl (by kernel_rfl) (by kernel_rfl) (by kernel_rfl) (fun _ _ _ h => h) (by rfl) ?hy8b (by assumption) ?_
  case hy8b => intro WW hSw; (try dsimp only at hSw); go_simp; try with_reducible rfl
  try simp only [Act.put, List.setIfInBounds_toArray, List.set_cons_zero, List.set_cons_succ]
  refine take_in (i := 9) (v := ?v9b) rfl (by kernel_rfl) (by kernel_rfl) (by kernel_rfl) (fun _ _ _ h => h) (by rfl) ?hy9b (by assumption) ?_
  case hy9b => intro WW hSw; (try dsimp only at hSw); go_simp; try with_reducible rfl
  try simp only [Act.put, List.setIfInBounds_toArray, List.set_cons_zero, List.set_cons_succ]
  refine take_in (i := 10) (v := ?v10b) rfl (by kernel_rfl) (by kernel_rfl) (by kernel_rfl) (fun _ _ _ h => h) (by rfl) ?hy10b (by assumption) ?_
  case hy10b => intro WW hSw; (try dsimp only at hSw); go_simp; try with_reducible rfl
  try simp only [Act.put, List.setIfInBounds_toArray, List.set_cons_zero, List.set_cons_succ]
  refine take_in (i := 11) (v := .bool false) rfl (by kernel_rfl) (by kernel_rfl) (by kernel_rfl) (fun _ _ _ h => h) (by rfl) ?hy11b (by assumption) ?_
  case hy11b => intro WW hSw; (try dsimp only at hSw); have hh := hx0; go_simp; try with_reducible rfl
  try simp only [Act.put, List.setIfInBounds_toArray, List.set_cons_zero, List.set_cons_succ]
  refine one_step (i := 4) (by kernel_rfl) rfl (fun K hK => ?_)
  go_simp
  refine hK.out _ _ ?_ (fun hHeld => ?_)
  · first | exact hS4 | exact hS3 | exact hS2
  clear hK K
  try simp only [Act.put, List.setIfInBounds_toArray, List.set_cons_zero, List.set_cons_succ]
  refine one_step (i := 12) (by kernel_rfl) rfl (fun K hK => ?_)
  go_simp
  go_at_call 31
  go_loud (refine (hMk _ (by first | exact KeptBut.refl _ _ | exact keptBut_drew (KeptBut.refl _ _))).mono ?_)
  rintro e W3 ⟨v3, rfl, ho3, hg3, hm3⟩
  have hx3 := hx2.at_ (HKX.out W3 hg3)
  have hv3 := hv2.at_ (HKV.out W3 hg3)
  obtain ⟨A3, c3, rfl, _, _⟩ := own_words ho3
  have hc3x := hx3.cells
  have hc3v := hv3.cells
  have hf3v := hv3.free
  have hS3 : (fun WW => WW.cell? ⟨w.heap.size, 0, none⟩ = some (.int .i64 3) ∧ WW.cell? ⟨b, 1, none⟩ = some (.int .i64 (N : Int))) W3 := ⟨hc3x 0, hc3v 1⟩
  refine hK.out _ _ ?_ (fun hHeld => ?_)
  · first | exact hS4 | exact hS3 | exact hS2
  clear hK K
  try simp only [Act.put, List.setIfInBounds_toArray, List.set_cons_zero, List.set_cons_succ]
  refine take_in (i := 13) (v := ?v13b) rfl (by kernel_rfl) (by kernel_rfl) (by kernel_rfl) (fun _ _ _ h => h) (by rfl) ?hy13b (by assumption) ?_
  case hy13b => intro WW hSw; (try dsimp only at hSw); go_simp; try with_reducible rfl
  try simp only [Act.put, List.setIfInBounds_toArray, List.set_cons_zero, List.set_cons_succ]
  refine take_in (i := 14) (v := ?v14b) rfl (by kernel_rfl) (by kernel_rfl) (by kernel_rfl) (fun _ _ _ h => h) (by rfl) ?hy14b (by assumption) ?_
  case hy14b => intro WW hSw; (try dsimp only at hSw); go_simp; try with_reducible rfl
  try simp only [Act.put, List.setIfInBounds_toArray, List.set_cons_zero, List.set_cons_succ]
  refine one_step (i := 15) (by kernel_rfl) rfl (fun K hK => ?_)
  go_simp
  obtain ⟨W4, hW4⟩ : ∃ W4, W4 = W3.setCell ⟨b, 2, none⟩ (.slice A3 (packW (s.nl ++ [false])).length c3) := ⟨_, rfl⟩
  rw [← hW4]
  have hv4 : VecB W4 b #[.int .i64 3, .int .i64 (N : Int), .slice A3 (packW (s.nl ++ [false])).length c3, bv, iv, .slice Ad P5.length cd, .map (some m), hvv] := by rw [hW4]; exact hv3.put 2 _
  have hx4 : Box W4 w.heap.size #[.int .i64 3, .bool xb, .int .i64 xn, .string xs, .slice xA xp.length xc] := by rw [hW4]; exact hx3.at_ (heap_setCell_other _ _ _ _ (by simp; omega))
  have hc4x := hx4.cells
  have hc4v := hv4.cells
  have hS4 : (fun WW => WW.cell? ⟨w.heap.size, 0, none⟩ = some (.int .i64 3) ∧ WW.cell? ⟨b, 1, none⟩ = some (.int .i64 (N : Int))) W4 := ⟨hc4x 0, hc4v 1⟩
  refine hK.out _ _ ?_ (fun hHeld => ?_)
  · first | exact hS4 | exact hS3 | exact hS2
  clear hK K
  try simp only [Act.put, List.setIfInBounds_toArray, List.set_cons_zero, List.set_cons_succ]
  refine wpAnyH_done (by kernel_rfl) ?_ _
  have HB3 := Aside0.mk (And.intro ho3 (And.intro hg3 hm3))
  have HK24 : Aside0 (KeptBut (fun j => j = b ∨ nv.ownBlock = some j) W2p W4) := ⟨by
    have k2 : KeptBut (fun j => j = b ∨ nv.ownBlock = some j) W2p W3 := keptBut_grown_d hg3 (fun j e => Or.inr e)
    rw [hW4]
    exact k2.trans (keptBut_set W3 ⟨b, 2, none⟩ _ (.inl rfl)) (fun _ _ h => h)⟩
  have HK4 : Aside0 (KeptBut (fun j => (j = b ∨ dv.ownBlock = some j ∨ j = m) ∨ (j = b ∨ nv.ownBlock = some j)) w W4) := ⟨(HG2.out.mono (fun j _ h => Or.inl h)).trans HK24.out (fun j _ h => Or.inr h)⟩
  have HO4 : Aside0 (OwnBits W4 0 (.slice A3 (packW (s.nl ++ [false])).length c3) (s.nl ++ [false])) := ⟨by
    rw [hW4]
    refine own_at ho3 (fun j hj e => heap_setCell_other _ _ _ _ (fun h => ?_))
    rcases hm3 with h1 | ⟨q, h1, h2⟩
    · rw [h1] at e; exact (HV.out.nb j e).2.2.2.2.1 h
    · rw [h1] at e; cases e
      have h3 : W2p.heap.size ≤ j := h2
      have h4 : j = b := h
      omega⟩
  have HS4 : Aside0 (w.heap.size ≤ W4.heap.size) := ⟨HK4.out.size⟩
  have HS2 : Aside0 (w.heap.size ≤ W2p.heap.size ∧ W2p.heap.size ≤ W4.heap.size) := ⟨HG2.out.size, HK24.out.size⟩
  have HN3 : Aside0 (∀ j, Value.ownBlock (.slice A3 (packW (s.nl ++ [false])).length c3) = some j → j < W4.heap.size) := ⟨fun j e => own_lt HO4.out e⟩
  have HM3 : Aside0 (InZ (fun j => W2p.heap.size ≤ j ∧ j < W4.heap.size) nv (.slice A3 (packW (s.nl ++ [false])).length c3)) := ⟨by
    rcases hm3 with h1 | ⟨q, h1, h2⟩
    · exact .inl h1
    · exact .inr ⟨q, h1, h2, HN3.out q h1⟩⟩
  have hc4v2 := hv4.cells
  have hc4x2 := hx4.cells
  have hf4v := hv4.free
  have hb4l := hv4.lt
  have hxl4 := hx4.lt
  clear hW4 hx3 hv3 hc3x hc3v hf3v hS3 hS4 hHeld hc4x hx2 hv2 hc2x hc2v hf2v hMk HKX HKV hS2 ho2 ho3 hg3 hm3 hxl2
  have hi4 : W4.ownsRow 0 2 1 iv s.il.length (numCells s.il) := left_i HV.out HK4.out (fun j e h => by
    rcases h with (h | h | h) | h | h
    · exact (HV.out.ib j e).2.2.1 h
    · exact (HV.out.ib j e).1 h
    · exact (HV.out.ib j e).2.2.2 h
    · exact (HV.out.ib j e).2.2.1 h
    · exact (HV.out.nb j h).2.1 e)
  clear hx4 hc4x2 hxl4
  go_wp2_with (at_builtin; go_loud (refine append_i64 rfl (.tmp 92) (.tmp 94) rfl iv s.il.length (numCells s.il) rfl hi4 (L : Int) rfl (by have := HIL.out; have := HNN.out; omega) ?_))
  intro v5 W5 ho5 hg5 hm5
  obtain ⟨A5, c5, rfl, hl5⟩ := row_shape ho5
  have hv5 := hv4.at_ (hg5.block b hb4l (fun e => (HV.out.ib _ e.symm).2.2.1 rfl))
  have HB5 := Aside0.mk (And.intro ho5 (And.intro hg5 hm5))
  have hc5v := hv5.cells
  have hf5v := hv5.free
  clear ho5 hg5 hm5 hv4 hc4v hc4v2 hf4v hb4l hi4
  go_upto_region 13 with (fail)
  obtain ⟨W6, hW6⟩ : ∃ W6, W6 = W5.setCell ⟨b, 4, none⟩ (.slice A5 (s.il.length + 1) c5) := ⟨_, rfl⟩
  rw [← hW6]
  have HW6 := Aside0.mk hW6
  clear hW6
  have hv6 : VecB W6 b #[.int .i64 3, .int .i64 (N : Int), .slice A3 (packW (s.nl ++ [false])).length c3, bv, .slice A5 (s.il.length + 1) c5, .slice Ad P5.length cd, .map (some m), hvv] := by rw [HW6.out]; exact hv5.put 4 _
  have hc6v := hv6.cells
  have hf6v := hv6.free
  have hNw : RowKit.wrap64 ((N : Int) + 1) = (N : Int) + 1 := by unfold RowKit.wrap64; omega
  clear hv5 hc5v hf5v
  go_wp2
  go_ret
  obtain ⟨W7, hW7⟩ : ∃ W7, W7 = W6.setCell ⟨b, 1, none⟩ (.int .i64 ((N : Int) + 1)) := ⟨_, rfl⟩
  rw [← hW7]
  have hV := HV.out
  have hW6 := HW6.out
  have hh7 : ∀ j, j ≠ b → W7.heap[j]? = W5.heap[j]? := fun j hj => by rw [hW7, heap_setCell_other _ _ _ _ hj, hW6, heap_setCell_other _ _ _ _ hj]
  obtain ⟨ho5, hg5, hm5⟩ := HB5.out
  have hK27 : KeptBut (fun j => (j = b ∨ nv.ownBlock = some j) ∨ iv.ownBlock = some j) W2p W7 := by
    have k1 := HK24.out.mono (G := fun j => (j = b ∨ nv.ownBlock = some j) ∨ iv.ownBlock = some j) (fun j _ h => Or.inl h)
    have k2 : KeptBut (fun j => (j = b ∨ nv.ownBlock = some j) ∨ iv.ownBlock = some j) W4 W5 := keptBut_grown hg5 (fun j e => Or.inr e)
    rw [hW7, hW6]
    exact ((k1.trans k2 (fun _ _ h => h)).trans (keptBut_set W5 ⟨b, 4, none⟩ _ (.inl (.inl rfl))) (fun _ _ h => h)).trans (keptBut_set _ ⟨b, 1, none⟩ _ (.inl (.inl rfl))) (fun _ _ h => h)
  have hK7 : KeptBut (fun j => (j = b ∨ dv.ownBlock = some j ∨ j = m) ∨ ((j = b ∨ nv.ownBlock = some j) ∨ iv.ownBlock = some j)) w W7 := (HG2.out.mono (fun j _ h => Or.inl h)).trans hK27 (fun j _ h => Or.inr h)
  have hs2 := HS2.out
  have b3 : ∀ j, Value.ownBlock (.slice A3 (packW (s.nl ++ [false])).length c3) = some j → j ≠ b ∧ iv.ownBlock ≠ some j := fun j e => by
    rcases HM3.out with h1 | ⟨q, h1, h2⟩
    · rw [h1] at e
      exact ⟨(hV.nb j e).2.2.2.2.1, (hV.nb j e).2.1⟩
    · rw [h1] at e
      cases e
      exact ⟨by omega, fun e => by have := own_lt hV.ints e; omega⟩
  have b5 : ∀ j, Value.ownBlock (.slice A5 (s.il.length + 1) c5) = some j → j ≠ b := fun j e => by
    rcases hm5 with h1 | ⟨q, h1, h2⟩
    · rw [h1] at e
      exact (hV.ib j e).2.2.1
    · rw [h1] at e
      cases e
      omega
  rw [← HP5.out, ← HLL.out]
  refine ⟨rfl, ⟨.slice A3 (packW (s.nl ++ [false])).length c3, bv, .slice A5 (s.il.length + 1) c5, .slice Ad P5.length cd, hvv, m, vec_step (s' := { s with nl := s.nl ++ [false], il := s.il ++ [(L : Int)], dl := P5 }) hV (fun j => W2p.heap.size ≤ j ∧ j < W4.heap.size) (fun _ => False) (fun j => W4.heap.size ≤ j) (fun j => w.heap.size ≤ j ∧ j < W2p.heap.size) (fun _ => False) ?_ ?_ (left_b (s := s) hV hK7 ?_) ?_ ?_ (left_h (s := s) hV hK7 ?_) ?_ HM3.out (.inl rfl) ?_ HMD.out (.inl rfl) ?_ ?_⟩, hK7.mono (fun j _ h => ?_)⟩
  · rw [show ((s.nl ++ [false]).length : Int) = (N : Int) + 1 by rw [List.length_append]; have := HNN.out; simp; omega, HSK.out, hW7]
    exact hv6.put 1 _
  · refine own_at HO4.out (fun j hj e => ?_)
    rw [hh7 j (b3 j e).1]
    exact hg5.block j hj (fun h => (b3 j e).2 h.symm)
  · rintro j e ((h | h | h) | ((h | h) | h))
    · exact (hV.bb j e).2.2.2.1 h
    · exact (hV.bb j e).2.1 h
    · exact (hV.bb j e).2.2.2.2 h
    · exact (hV.bb j e).2.2.2.1 h
    · exact (hV.nb j h).1 e
    · exact (hV.bb j e).1 h
  · rw [List.length_append, numCells_snoc]
    exact own_at ho5 (fun j hj e => hh7 j (b5 j e))
  · refine own_at HOD.out (fun j hj e => hK27.block j hj (fun h => ?_))
    rcases HMD.out with h1 | ⟨q, h1, h2⟩
    · rw [h1] at e
      rcases h with (h | h) | h
      · exact (hV.db j e).2.1 h
      · exact (hV.nb j h).2.2.1 e
      · exact (hV.ib j h).1 e
    · rw [h1] at e
      cases e
      rcases h with (h | h) | h
      · omega
      · have := own_lt hV.nulls h; omega
      · have := own_lt hV.ints h; omega
  · rintro j e ((h | h | h) | ((h | h) | h))
    · exact (hV.hb j e).1 h
    · exact (hV.db j h).1 e
    · exact (hV.hb j e).2 h
    · exact (hV.hb j e).1 h
    · exact (hV.nb j h).2.2.2.1 e
    · exact (hV.ib j h).2.1 e
  · refine map_at HOM.out (hK27.block m HOM.out.lt (fun h => ?_))
    rcases h with (h | h) | h
    · exact hV.bm h.symm
    · exact (hV.nb m h).2.2.2.2.2 rfl
    · exact (hV.ib m h).2.2.2 rfl
  · rcases hm5 with h1 | ⟨q, h1, h2⟩
    · exact .inl h1
    · exact .inr ⟨q, h1, h2⟩
  · rintro j (h | h | h | h | h)
    all_goals first | exact h.elim | omega
  · intro j
    refine ⟨fun h => ⟨fun h => h, fun h => ?_, fun h => ?_, fun h => ?_⟩, fun h => h.elim, fun h => ⟨fun h => ?_, fun h => ?_⟩, fun h => (fun h => ?_)⟩
    all_goals first | exact h.elim | omega
  · rcases h with (h | h | h) | ((h | h) | h)
    · exact h ▸ hV.fb
    · exact hV.fd j h
    · exact h ▸ hV.fm
    · exact h ▸ hV.fb
    · exact hV.fn j h
    · exact hV.fi j h
end Go.Proofs.YtbdbcbpcekpcoaaDoor
