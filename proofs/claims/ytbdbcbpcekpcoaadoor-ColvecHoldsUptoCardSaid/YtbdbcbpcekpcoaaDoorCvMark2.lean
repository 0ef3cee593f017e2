/- colvec.mark, whole. -/
import Derived.Test.YtbdbcbpcekpcoaaDoorCvMark
import Derived.Deep.Cut
set_option linter.unusedVariables false
set_option linter.unusedSimpArgs false
namespace Go.Proofs.YtbdbcbpcekpcoaaDoor
open Go.RowKit

theorem grown_drew {w w' : World} {r : Option Nat} (h : w.grownBy w' r) : w.grownBy w'.drew r := ⟨h.os, h.tape, h.output, h.size, h.block⟩
theorem grown_more {a b c : World} {r : Option Nat} {g : Nat} (h : a.grownBy b r) (k : b.grownBy c (some g)) (hg : a.heap.size ≤ g) : a.grownBy c r :=
  ⟨k.os.trans h.os, k.tape.trans h.tape, k.output.trans h.output, Nat.le_trans h.size k.size, fun j hj hn => (k.block j (by have := h.size; omega) (fun e => by cases e; omega)).trans (h.block j hj hn)⟩
set_option maxRecDepth 100000 in
set_option maxHeartbeats 3200000 in
theorem mark_in_t (B : Nat) (v : Value) (bs : List Bool) (W : World) (hown : OwnBits W B v bs) (hB : B ≤ W.heap.size) (hl : bs.length ≤ 8796093022208) (hr : ¬ bs.length % 64 = 0) :
    Calls Tryd.prog 31 #[v, .int .i64 (bs.length : Int), .bool true] W (Marks W B v (bs ++ [true])) := by
  obtain ⟨q, hq⟩ : ∃ q, q = bs.length / 64 := ⟨_, rfl⟩
  obtain ⟨m, hm⟩ : ∃ m, m = bs.length % 64 := ⟨_, rfl⟩
  have hqi : (bs.length : Int).tdiv 64 = (q : Int) := by rw [Int.tdiv_eq_ediv_of_nonneg (by omega), hq]; omega
  have hmi : (bs.length : Int).tmod 64 = (m : Int) := by rw [Int.tmod_eq_emod_of_nonneg (by omega), hm]; omega
  have hm64 : m < 64 := by omega
  have hmi0 : (0 : Int) ≤ (m : Int) := by omega
  have hmi1 : (m : Int) < 64 := by omega
  have hqi0 : (0 : Int) ≤ (q : Int) := by omega
  have hwq : IntKind.i64.wrap (q : Int) = (q : Int) := by rw [IntKind.wrap_i64]; omega
  have hp2 : 2 ^ m ≤ 2 ^ 63 := Nat.pow_le_pow_right (by decide) (by omega)
  have e63 : (2 : Nat) ^ 63 = 9223372036854775808 := by decide
  have e2m : (2 : Int) ^ m = ((2 ^ m : Nat) : Int) := by simp
  have hshl : IntKind.u64.wrap ((2 : Int) ^ m) = (2 : Int) ^ m := by
    rw [e2m]
    obtain ⟨yy, hyy⟩ : ∃ yy, yy = 2 ^ m := ⟨_, rfl⟩
    rw [← hyy] at hp2 ⊢
    have e2 : IntKind.u64.wrap (yy : Int) = (yy : Int) % 18446744073709551616 := by simp [IntKind.wrap, IntKind.signed, IntKind.bits]
    rw [e2]
    omega
  obtain ⟨g, cap, rfl, hcap⟩ := own_one W B v bs hown (by omega)
  have hpl := packW_len bs
  have hgd := packW_at bs q (by omega)
  have hxl := numB_lt (chunk bs q)
  rw [chunk_len bs q (by omega) (by omega)] at hxl
  have e1 : bs.length - 64 * q = m := by omega
  rw [e1] at hxl
  have hsn := packW_snoc1 bs true hr
  rw [← hq, ← hm] at hsn
  generalize numB (chunk bs q) = x at hgd hxl hsn
  have hor := or_bit x m hxl hm64
  have hcell : W.cell? ⟨g, q, none⟩ = some (.int .u64 (x : Int)) := by
    have h := World.ownsRow.cellAt hown q (by omega)
    rw [h, ← hgd]
    simp [wordCells, List.getD, show q < (packW bs).length by omega]
  have hfr := World.ownsRow.frozenAt hown q
  have hst := hown.stored q (.int .u64 ((x : Int) + ((2 ^ m : Nat) : Int)))
  have HST : Aside0 (OwnBits (W.setCell ⟨g, q, none⟩ (.int .u64 ((x : Int) + ((2 ^ m : Nat) : Int)))) B (.slice (some ⟨g, 0, none⟩) (packW bs).length cap) (bs ++ [true]) ∧ W.grownBy (W.setCell ⟨g, q, none⟩ (.int .u64 ((x : Int) + ((2 ^ m : Nat) : Int)))) (some g)) := ⟨by
    refine ⟨?_, hst.2⟩
    unfold OwnBits
    rw [hsn, List.length_set]
    have e2 : wordCells ((packW bs).set q ((x : Int) + if true = true then ((2 ^ m : Nat) : Int) else 0)) = (wordCells (packW bs)).set q (.int .u64 ((x : Int) + ((2 ^ m : Nat) : Int))) := by simp [wordCells, List.map_set]
    rw [e2]
    exact hst.1⟩
  have haq : (⟨g, 0, none⟩ : Addr).add q = ⟨g, q, none⟩ := by
    unfold Addr.add
    split
    · rename_i h; rw [h]
    · simp
  have hqL : q < (packW bs).length := by omega
  have hLL : (packW bs).length ≤ 200000000000 := by omega
  have hm0 : ((m : Int) == 0) = false := by rw [beq_eq_false_iff_ne]; omega
  rw [← e2m] at hor HST
  generalize hz : (x : Int) + (2 : Int) ^ m = z at hor HST
  generalize (packW bs).length = L at hqL hLL HST ⊢
  have hqLi : (q : Int) < (L : Int) := by omega
  clear hown hst hsn hgd hxl hz hpl hq hm hr hp2 e63 e1 hcap e2m
  go_enter Tryd.func31, Tryd.ntmps31
  go_upto_region 4 with (fail)
  refine wp_region_held_drew (S := (fun _ => True)) (by kernel_rfl) ?_ (fun hHeld => ?_)
  · trivial
  refine take_in (i := 0) (v := ?v0a) rfl (by kernel_rfl) (by kernel_rfl) (by kernel_rfl) (fun _ _ _ h => h) (by rfl) ?hy0a (by assumption) ?_
  case hy0a => intro WW hSw; (try dsimp only at hSw); go_simp; try with_reducible rfl
  try simp only [Act.put, List.setIfInBounds_toArray, List.set_cons_zero, List.set_cons_succ]
  refine take_in (i := 1) (v := ?v1a) rfl (by kernel_rfl) (by kernel_rfl) (by kernel_rfl) (fun _ _ _ h => h) (by rfl) ?hy1a (by assumption) ?_
  case hy1a => intro WW hSw; (try dsimp only at hSw); go_simp; try with_reducible rfl
  try simp only [Act.put, List.setIfInBounds_toArray, List.set_cons_zero, List.set_cons_succ]
  refine take_in (i := 2) (v := .int .i64 (q : Int)) rfl (by kernel_rfl) (by kernel_rfl) (by kernel_rfl) (fun _ _ _ h => h) (by rfl) ?hy2a (by assumption) ?_
  case hy2a => intro WW hSw; have hh := hqi; have hh2 := hwq; go_simp; try with_reducible rfl
  try simp only [Act.put, List.setIfInBounds_toArray, List.set_cons_zero, List.set_cons_succ]
  refine take_in (i := 3) (v := .pointer (some ⟨g, q, none⟩)) rfl (by kernel_rfl) (by kernel_rfl) (by kernel_rfl) (fun _ _ _ h => h) (by rfl) ?hy3a (by assumption) ?_
  case hy3a => intro WW hSw; have hh := haq; go_simp; try with_reducible rfl
  try simp only [Act.put, List.setIfInBounds_toArray, List.set_cons_zero, List.set_cons_succ]
  refine take_in (i := 5) (v := ?v5a) rfl (by kernel_rfl) (by kernel_rfl) (by kernel_rfl) (fun _ _ _ h => h) (by rfl) ?hy5a (by assumption) ?_
  case hy5a => intro WW hSw; (try dsimp only at hSw); go_simp; try with_reducible rfl
  try simp only [Act.put, List.setIfInBounds_toArray, List.set_cons_zero, List.set_cons_succ]
  refine take_in (i := 6) (v := .int .i64 (m : Int)) rfl (by kernel_rfl) (by kernel_rfl) (by kernel_rfl) (fun _ _ _ h => h) (by rfl) ?hy6a (by assumption) ?_
  case hy6a => intro WW hSw; have hh := hmi; go_simp; try with_reducible rfl
  try simp only [Act.put, List.setIfInBounds_toArray, List.set_cons_zero, List.set_cons_succ]
  refine take_in (i := 7) (v := .int .u64 ((2 : Int) ^ m)) rfl (by kernel_rfl) (by kernel_rfl) (by kernel_rfl) (fun _ _ _ h => h) (by rfl) ?hy7a (by assumption) ?_
  case hy7a => intro WW hSw; have hh := hshl; go_simp; try with_reducible rfl
  try simp only [Act.put, List.setIfInBounds_toArray, List.set_cons_zero, List.set_cons_succ]
  refine one_step (i := 4) (by kernel_rfl) rfl (fun K hK => ?_)
  go_simp
  refine hK.out _ _ ?_ (fun hHeld => ?_)
  · trivial
  clear hK K
  try simp only [Act.put, List.setIfInBounds_toArray, List.set_cons_zero, List.set_cons_succ]
  refine take_in (i := 8) (v := .int .u64 z) rfl (by kernel_rfl) (by kernel_rfl) (by kernel_rfl) (fun _ _ _ h => h) (by rfl) ?hy8a (by assumption) ?_
  case hy8a => intro WW hSw; have hh := hor; go_simp; try with_reducible rfl
  try simp only [Act.put, List.setIfInBounds_toArray, List.set_cons_zero, List.set_cons_succ]
  refine take_in (i := 9) (v := .pointer (some ⟨g, q, none⟩)) rfl (by kernel_rfl) (by kernel_rfl) (by kernel_rfl) (fun _ _ _ h => h) (by rfl) ?hy9a (by assumption) ?_
  case hy9a => intro WW hSw; have hh := haq; go_simp; try with_reducible rfl
  try simp only [Act.put, List.setIfInBounds_toArray, List.set_cons_zero, List.set_cons_succ]
  refine one_step (i := 10) (by kernel_rfl) rfl (fun K hK => ?_)
  go_simp
  refine hK.out _ _ ?_ (fun hHeld => ?_)
  · trivial
  clear hK K
  try simp only [Act.put, List.setIfInBounds_toArray, List.set_cons_zero, List.set_cons_succ]
  refine wpAnyH_done (by kernel_rfl) ?_ _
  go_wp2
  go_ret
  exact ⟨_, rfl, HST.out.1.drew, grown_drew HST.out.2, .inl rfl⟩
set_option maxRecDepth 100000 in
set_option maxHeartbeats 3200000 in
theorem mark_0_t (B : Nat) (v : Value) (bs : List Bool) (W : World) (hown : OwnBits W B v bs) (hB : B ≤ W.heap.size) (hl : bs.length ≤ 8796093022208) (hr : bs.length % 64 = 0) :
    Calls Tryd.prog 31 #[v, .int .i64 (bs.length : Int), .bool true] W (Marks W B v (bs ++ [true])) := by
  obtain ⟨q, hq⟩ : ∃ q, q = bs.length / 64 := ⟨_, rfl⟩
  obtain ⟨m, hm⟩ : ∃ m, m = bs.length % 64 := ⟨_, rfl⟩
  have hqi : (bs.length : Int).tdiv 64 = (q : Int) := by rw [Int.tdiv_eq_ediv_of_nonneg (by omega), hq]; omega
  have hmi : (bs.length : Int).tmod 64 = (m : Int) := by rw [Int.tmod_eq_emod_of_nonneg (by omega), hm]; omega
  have hm64 : m < 64 := by omega
  have hmi0 : (0 : Int) ≤ (m : Int) := by omega
  have hmi1 : (m : Int) < 64 := by omega
  have hqi0 : (0 : Int) ≤ (q : Int) := by omega
  have hwq : IntKind.i64.wrap (q : Int) = (q : Int) := by rw [IntKind.wrap_i64]; omega
  have hp2 : 2 ^ m ≤ 2 ^ 63 := Nat.pow_le_pow_right (by decide) (by omega)
  have e63 : (2 : Nat) ^ 63 = 9223372036854775808 := by decide
  have e2m : (2 : Int) ^ m = ((2 ^ m : Nat) : Int) := by simp
  have hshl : IntKind.u64.wrap ((2 : Int) ^ m) = (2 : Int) ^ m := by
    rw [e2m]
    obtain ⟨yy, hyy⟩ : ∃ yy, yy = 2 ^ m := ⟨_, rfl⟩
    rw [← hyy] at hp2 ⊢
    have e2 : IntKind.u64.wrap (yy : Int) = (yy : Int) % 18446744073709551616 := by simp [IntKind.wrap, IntKind.signed, IntKind.bits]
    rw [e2]
    omega
  obtain ⟨i0, hi, hz0, hz1, hz2⟩ := info_parts info_u64
  have hpl := packW_len bs
  have hm00 : m = 0 := by omega
  subst hm00
  have hsn : packW (bs ++ [true]) = packW bs ++ [1] := by simpa using packW_snoc0 bs true hr
  have HSN := Aside0.mk hsn
  have HOW := Aside0.mk hown
  have hql : (packW bs).length = q := by omega
  have hpl9 : (packW bs).length ≤ 200000000000 := by omega
  have HPL := Aside0.mk (And.intro hpl9 hql)
  have hm0 : (((0 : Nat) : Int) == 0) = true := rfl
  have hor : bits .or .u64 0 1 = 1 := by decide
  have hsh1 : IntKind.u64.wrap 1 = 1 := by decide
  clear hown hpl hpl9 hql hsn hp2 e63 e2m hshl hq hm
  go_enter Tryd.func31, Tryd.ntmps31
  go_wp2_with (at_builtin; go_loud (refine wpList_append_own_at (w := W.alloc (.cells #[.int .u64 0] 73)) rfl (.tmp 10) (.tmp 11) 51 rfl B 73 i0 (.int .u64 0) 1 8 Tryd.underlying51 hi hz0 hz1 hz2 rfl (by decide) v (packW bs).length (wordCells (packW bs)) rfl (HOW.out.alloc _) ⟨W.heap.size, 0, none⟩ 1 1 [.int .u64 0] rfl rfl (cell_one_new _ _ _) (by intro u hu; simp at hu; subst hu; rfl) (by unfold maxLen; have := HPL.out.1; omega) (by have := HPL.out.1; omega) (by simp; omega) ?_))
  intro v1 W1 ho1 hg1 hnn hat1
  have hg := (World.grownBy_alloc W (.cells #[.int .u64 0] 73) v.ownBlock).trans hg1
  obtain ⟨g, cap, rfl⟩ : ∃ g cap, v1 = .slice (some ⟨g, 0, none⟩) ((packW bs).length + 1) cap := by
    rcases ho1.2 with ⟨e, h0⟩ | ⟨g, cap, cur, e, _⟩
    · omega
    · exact ⟨g, cap, e⟩
  obtain ⟨L, hL⟩ : ∃ L, L = (packW bs).length + 1 := ⟨_, rfl⟩
  rw [← hL] at ho1 ⊢
  have hqL : q < L := by have := HPL.out.2; omega
  have hLL : L ≤ 200000000001 := by have := HPL.out.1; omega
  have hqLi : (q : Int) < (L : Int) := by omega
  have hcell : W1.cell? ⟨g, q, none⟩ = some (.int .u64 0) := by
    have h := World.ownsRow.cellAt ho1 q (by omega)
    rw [h, List.getElem?_append_right (by rw [wordCells_len]; have := HPL.out.2; omega)]
    have := HPL.out.2
    simp [wordCells_len, this]
  have hfr := World.ownsRow.frozenAt ho1 q
  have hst := ho1.stored q (.int .u64 1)
  have HST : Aside0 (OwnBits (W1.setCell ⟨g, q, none⟩ (.int .u64 1)) B (.slice (some ⟨g, 0, none⟩) L cap) (bs ++ [true]) ∧ W1.grownBy (W1.setCell ⟨g, q, none⟩ (.int .u64 1)) (some g)) := ⟨by
    refine ⟨?_, hst.2⟩
    unfold OwnBits
    rw [HSN.out]
    have e2 : wordCells (packW bs ++ [1]) = (wordCells (packW bs) ++ [Value.int .u64 0]).set q (.int .u64 1) := by
      rw [List.set_append_right _ _ (by rw [wordCells_len]; have := HPL.out.2; omega), wordCells_len, HPL.out.2, Nat.sub_self]
      simp [wordCells]
    rw [e2, show (packW bs ++ [(1 : Int)]).length = L by rw [List.length_append, hL]; rfl]
    exact hst.1⟩
  have haq : (⟨g, 0, none⟩ : Addr).add q = ⟨g, q, none⟩ := by
    unfold Addr.add
    split
    · rename_i h; rw [h]
    · simp
  have HG := Aside0.mk hg
  have HAT : Aside0 ((∃ k, some g = some k ∧ W.heap.size ≤ k) ∨ some g = v.ownBlock) := ⟨by
    rcases hat1 with h | h
    · exact .inr h
    · exact .inl ⟨_, h, by simp⟩⟩
  clear hg hst ho1 hg1 hat1 hnn hL
  go_upto_region 4 with (fail)
  refine wp_region_held_drew (S := (fun _ => True)) (by kernel_rfl) ?_ (fun hHeld => ?_)
  · trivial
  refine take_in (i := 0) (v := ?v0b) rfl (by kernel_rfl) (by kernel_rfl) (by kernel_rfl) (fun _ _ _ h => h) (by rfl) ?hy0b (by assumption) ?_
  case hy0b => intro WW hSw; (try dsimp only at hSw); go_simp; try with_reducible rfl
  try simp only [Act.put, List.setIfInBounds_toArray, List.set_cons_zero, List.set_cons_succ]
  refine take_in (i := 1) (v := ?v1b) rfl (by kernel_rfl) (by kernel_rfl) (by kernel_rfl) (fun _ _ _ h => h) (by rfl) ?hy1b (by assumption) ?_
  case hy1b => intro WW hSw; (try dsimp only at hSw); go_simp; try with_reducible rfl
  try simp only [Act.put, List.setIfInBounds_toArray, List.set_cons_zero, List.set_cons_succ]
  refine take_in (i := 2) (v := .int .i64 (q : Int)) rfl (by kernel_rfl) (by kernel_rfl) (by kernel_rfl) (fun _ _ _ h => h) (by rfl) ?hy2b (by assumption) ?_
  case hy2b => intro WW hSw; have hh := hqi; have hh2 := hwq; go_simp; try with_reducible rfl
  try simp only [Act.put, List.setIfInBounds_toArray, List.set_cons_zero, List.set_cons_succ]
  refine take_in (i := 3) (v := .pointer (some ⟨g, q, none⟩)) rfl (by kernel_rfl) (by kernel_rfl) (by kernel_rfl) (fun _ _ _ h => h) (by rfl) ?hy3b (by assumption) ?_
  case hy3b => intro WW hSw; have hh := haq; go_simp; try with_reducible rfl
  try simp only [Act.put, List.setIfInBounds_toArray, List.set_cons_zero, List.set_cons_succ]
  refine take_in (i := 5) (v := ?v5b) rfl (by kernel_rfl) (by kernel_rfl) (by kernel_rfl) (fun _ _ _ h => h) (by rfl) ?hy5b (by assumption) ?_
  case hy5b => intro WW hSw; (try dsimp only at hSw); go_simp; try with_reducible rfl
  try simp only [Act.put, List.setIfInBounds_toArray, List.set_cons_zero, List.set_cons_succ]
  refine take_in (i := 6) (v := .int .i64 0) rfl (by kernel_rfl) (by kernel_rfl) (by kernel_rfl) (fun _ _ _ h => h) (by rfl) ?hy6b (by assumption) ?_
  case hy6b => intro WW hSw; have hh := hmi; go_simp; try with_reducible rfl
  try simp only [Act.put, List.setIfInBounds_toArray, List.set_cons_zero, List.set_cons_succ]
  refine take_in (i := 7) (v := .int .u64 (1)) rfl (by kernel_rfl) (by kernel_rfl) (by kernel_rfl) (fun _ _ _ h => h) (by rfl) ?hy7b (by assumption) ?_
  case hy7b => intro WW hSw; have hh := hsh1; go_simp; try with_reducible rfl
  try simp only [Act.put, List.setIfInBounds_toArray, List.set_cons_zero, List.set_cons_succ]
  refine one_step (i := 4) (by kernel_rfl) rfl (fun K hK => ?_)
  go_simp
  refine hK.out _ _ ?_ (fun hHeld => ?_)
  · trivial
  clear hK K
  try simp only [Act.put, List.setIfInBounds_toArray, List.set_cons_zero, List.set_cons_succ]
  refine take_in (i := 8) (v := .int .u64 1) rfl (by kernel_rfl) (by kernel_rfl) (by kernel_rfl) (fun _ _ _ h => h) (by rfl) ?hy8b (by assumption) ?_
  case hy8b => intro WW hSw; have hh := hor; go_simp; try with_reducible rfl
  try simp only [Act.put, List.setIfInBounds_toArray, List.set_cons_zero, List.set_cons_succ]
  refine take_in (i := 9) (v := .pointer (some ⟨g, q, none⟩)) rfl (by kernel_rfl) (by kernel_rfl) (by kernel_rfl) (fun _ _ _ h => h) (by rfl) ?hy9b (by assumption) ?_
  case hy9b => intro WW hSw; have hh := haq; go_simp; try with_reducible rfl
  try simp only [Act.put, List.setIfInBounds_toArray, List.set_cons_zero, List.set_cons_succ]
  refine one_step (i := 10) (by kernel_rfl) rfl (fun K hK => ?_)
  go_simp
  refine hK.out _ _ ?_ (fun hHeld => ?_)
  · trivial
  clear hK K
  try simp only [Act.put, List.setIfInBounds_toArray, List.set_cons_zero, List.set_cons_succ]
  refine wpAnyH_done (by kernel_rfl) ?_ _
  go_wp2
  go_ret
  refine ⟨_, rfl, HST.out.1.drew, ?_, ?_⟩
  · rcases HAT.out with ⟨k, e, hk⟩ | e
    · cases e
      exact grown_drew (grown_more HG.out HST.out.2 hk)
    · exact grown_drew (HG.out.trans (e ▸ HST.out.2))
  · rcases HAT.out with ⟨k, e, hk⟩ | e
    · exact .inr ⟨k, e, hk⟩
    · exact .inl e
theorem mark_any (B : Nat) (v : Value) (bs : List Bool) (b : Bool) (W : World) (hown : OwnBits W B v bs) (hB : B ≤ W.heap.size) (hl : bs.length ≤ 8796093022208) :
    Calls Tryd.prog 31 #[v, .int .i64 (bs.length : Int), .bool b] W (Marks W B v (bs ++ [b])) := by
  by_cases hr : bs.length % 64 = 0
  · cases b
    · exact mark_0_f B v bs W hown hB hl hr
    · exact mark_0_t B v bs W hown hB hl hr
  · cases b
    · exact mark_in_f B v bs W hown hl hr
    · exact mark_in_t B v bs W hown hB hl hr
end Go.Proofs.YtbdbcbpcekpcoaaDoor
