/- The walk of RawgraphIDs. -/
import Derived.Test.YtffifhinhemkdaaRgPl2
import Derived.Test.YtffifhinhemkdaaRgOpen
import Derived.Test.YtffifhinhemkdaaRgChk
import Derived.Test.YtffifhinhemkdaaRgHdA
import Derived.Test.YtffifhinhemkdaaRgAppR
set_option linter.unusedVariables false
set_option linter.unusedSimpArgs false
namespace Go.Proofs.Ytffifhinhemkdaa
open Go.RowKit Go.Maps

theorem flat_set {α : Type} (f : α → List Value) (st : Nat) (hf : ∀ x, (f x).length = st) (i : Nat) (v : Value) (y : α) : ∀ (l : List α) (k : Nat), i < st → (∀ x, l[k]? = some x → f y = (f x).set i v) → (l.set k y).flatMap f = (l.flatMap f).set (k * st + i) v
  | [], k, hi, h => by simp
  | x :: r, 0, hi, h => by
    rw [List.set_cons_zero, List.flatMap_cons, List.flatMap_cons, Nat.zero_mul, Nat.zero_add, List.set_append, if_pos (by rw [hf]; exact hi), h x rfl]
  | x :: r, k + 1, hi, h => by
    have e : ¬ (k + 1) * st + i < (f x).length := by rw [hf, Nat.add_mul]; omega
    have e2 : (k + 1) * st + i - (f x).length = k * st + i := by rw [hf, Nat.add_mul]; omega
    rw [List.set_cons_succ, List.flatMap_cons, List.flatMap_cons, List.set_append, if_neg e, e2, flat_set f st hf i v y r k hi (fun x hx => h x (by simpa using hx))]
theorem own_some_E {W : World} {B n : Nat} {v : Value} {xs : List Value} (h : W.ownsRow B 31 5 v n xs) (hn : 0 < n) : ∃ g c, v = .slice (some ⟨g, 0, none⟩) n c ∧ B ≤ g := by
  rcases h with ⟨hl, ⟨rfl, h0⟩ | ⟨g, cap, cur, rfl, hg, hh⟩⟩
  · omega
  · exact ⟨g, cap, rfl, hg⟩
set_option maxRecDepth 100000 in
set_option maxHeartbeats 12800000 in
theorem ids_walk (g : GD) (z : Int) (w : World) (hg : ReadsG w g) (hz0 : 0 ≤ z) (hz1 : z ≤ 255) (hz : (g.VA = none → g.vc = 0) ∧ (g.UA = none → g.uc = 0)) (hN : g.nts.length ≤ 4000000000000 ∧ g.ets.length ≤ 4000000000000 ∧ g.ns.length ≤ 2932031007401 ∧ g.es.length ≤ 2199023255551) :
    Calls Try.prog 4 #[g.val, .int .u8 z] w fun e w' => e = .returned (.bool true) ∧ Below w.heap.size w w' := by
  have HCKA : Aside0 (∀ (ns2 : List ND) (es2 : List ED) (VA2 UA2 : Option Addr) (vc2 uc2 : Nat) W, Below w.heap.size w W → ReadsN W VA2 ns2 → ReadsE W UA2 es2 → Calls Try.prog 7 #[.agg #[.slice g.NA g.nts.length g.nc, .slice g.EA g.ets.length g.ec, .slice VA2 ns2.length vc2, .slice UA2 es2.length uc2]] W fun e w' => e = .returned (.tuple #[.agg #[.int .i64 (checkR g.nts g.ets ns2 es2).1, .int .i64 ((checkR g.nts g.ets ns2 es2).2.1 : Int)], .int .i64 (checkR g.nts g.ets ns2 es2).2.2]) ∧ Below W.heap.size W w') := ⟨fun ns2 es2 VA2 UA2 vc2 uc2 W h hn he => check_any g.nts g.ets ns2 es2 g.NA g.EA VA2 UA2 g.nc g.ec vc2 uc2 W (hg.nts.below h) (hg.ets.below h) hn he hN.1 hN.2.1⟩
  have HPE := Aside0.mk (fun k h hk => check_end g.nts g.ets g.ns g.es k h hk)
  have HPN := Aside0.mk (fun k h hk => check_twice g.nts g.ets g.ns g.es k h hk)
  have HG := Aside0.mk hg
  have HVA := Aside0.mk hz.1
  have HUA := Aside0.mk hz.2
  clear hz
  have HH : Aside0 (∀ W, Calls Try.prog 6 #[] W fun e w' => e = .returned (.bool true) ∧ Below W.heap.size W w') := ⟨fun W => head_any W⟩
  obtain ⟨NA, nts, nc, EA, ets, ec, VA, ns, vc, UA, es, uc⟩ := g
  simp only [GD.val] at HCKA ⊢
  simp only at HPE HPN hN HVA HUA
  obtain ⟨n1, hn1⟩ : ∃ n1, n1 = nts.length := ⟨_, rfl⟩
  obtain ⟨n2, hn2⟩ : ∃ n2, n2 = ets.length := ⟨_, rfl⟩
  obtain ⟨n3, hn3⟩ : ∃ n3, n3 = ns.length := ⟨_, rfl⟩
  obtain ⟨n4, hn4⟩ : ∃ n4, n4 = es.length := ⟨_, rfl⟩
  rw [← hn1, ← hn2] at HCKA
  rw [← hn1, ← hn2, ← hn3, ← hn4] at hN ⊢
  rw [← hn4] at HPE
  rw [← hn3] at HPN
  have HCK : Aside0 (∀ W, Below w.heap.size w W → _) := ⟨fun W h => HCKA.out ns es VA UA vc uc W h (HG.out.ns.below h) (HG.out.es.below h)⟩
  simp only [← hn3, ← hn4] at HCK
  obtain ⟨CR, hCR⟩ : ∃ CR, CR = checkR nts ets ns es := ⟨_, rfl⟩
  rw [← hCR] at HCK HPE HPN
  obtain ⟨c1, c2, c3⟩ := CR
  simp only at HCK HPE HPN
  have HN := Aside0.mk (And.intro hn3 hn4)
  clear hn1 hn2 hn3 hn4 hCR hg
  go_enter Try.func4, Try.ntmps4
  go_upto_region 1 with (fail)
  obtain ⟨W1, hW1⟩ : ∃ W1, W1 = w.alloc (.cells #[.slice NA n1 nc, .slice EA n2 ec, .slice VA n3 vc, .slice UA n4 uc] 26) := ⟨_, rfl⟩
  obtain ⟨br, hbr⟩ : ∃ br, br = w.heap.size := ⟨_, rfl⟩
  have HR1 : Aside0 (GBox W1 br #[.slice NA n1 nc, .slice EA n2 ec, .slice VA n3 vc, .slice UA n4 uc]) := ⟨by
    unfold GBox
    rw [hbr, hW1]
    exact heap_alloc_new w _⟩
  have HB1 : Aside0 (Below w.heap.size w W1) := ⟨by rw [hW1]; exact below_more (Below.refl _ _) _⟩
  have HBL : Aside0 (w.heap.size ≤ br ∧ br < W1.heap.size) := ⟨by rw [hbr, hW1]; simp⟩
  rw [← hW1, ← hbr]
  clear hW1 hbr
  have hhd := HH.out W1
  go_upto_region 2 with (go_at_call 6; go_loud (refine hhd.mono ?_))
  first
    | (intro e W2 he hb2; subst he)
    | rintro e W2 ⟨rfl, hb2⟩
  have HR2 : Aside0 (GBox W2 br #[.slice NA n1 nc, .slice EA n2 ec, .slice VA n3 vc, .slice UA n4 uc]) := ⟨(hb2.block br HBL.out.2).trans HR1.out⟩
  have HB2 := Aside0.mk (below_then HB1.out hb2)
  clear hhd hb2 HR1
  have hck := HCK.out W2 HB2.out
  have hrc := HR2.out.cells
  go_upto_region 3 with (go_at_call 7; go_loud (refine hck.mono ?_); first | (intro e W3 he hb3; subst he) | rintro e W3 ⟨rfl, hb3⟩)
  obtain ⟨W4, hW4⟩ : ∃ W4, W4 = W3.alloc (.cells #[.int .i64 c1, .int .i64 (c2 : Int)] 35) := ⟨_, rfl⟩
  rw [← hW4]
  have hb24 : Below W2.heap.size W2 W4 := by rw [hW4]; exact below_more hb3 _
  have HR4 : Aside0 (GBox W4 br #[.slice NA n1 nc, .slice EA n2 ec, .slice VA n3 vc, .slice UA n4 uc]) := ⟨(hb24.block br (Array.getElem?_eq_some_iff.1 HR2.out).1).trans HR2.out⟩
  have HB4 := Aside0.mk (below_then HB2.out hb24)
  have HX4 : Aside0 (w.heap.size ≤ br ∧ br < W4.heap.size) := ⟨HBL.out.1, (Array.getElem?_eq_some_iff.1 HR4.out).1⟩
  clear hck hb3 hrc HR2 HB2 HB1 HBL hW4 hb24
  have hr4 := HR4.out.cells
  by_cases hc3 : c3 = 0
  · subst hc3
    rcases Nat.eq_zero_or_pos n3 with h0 | h0
    · subst n3
      go_wp2
      go_ret
      exact ⟨rfl, HB4.out⟩
    · have hn3b : ((n3 : Int) == 0) = false := by rw [beq_eq_false_iff_ne]; omega
      go_upto_region 5 with (fail)
      obtain ⟨W5, hW5⟩ : ∃ W5, W5 = W4.alloc (.cells #[.slice NA n1 nc, .slice EA n2 ec, .slice VA n3 vc, .slice UA n4 uc] 26) := ⟨_, rfl⟩
      obtain ⟨bm, hbm⟩ : ∃ bm, bm = W4.heap.size := ⟨_, rfl⟩
      have HM5 : Aside0 (GBox W5 bm #[.slice NA n1 nc, .slice EA n2 ec, .slice VA n3 vc, .slice UA n4 uc]) := ⟨by
        unfold GBox
        rw [hbm, hW5]
        exact heap_alloc_new W4 _⟩
      have hb45 : Below W4.heap.size W4 W5 := by rw [hW5]; exact below_more (Below.refl _ _) _
      have HR5 : Aside0 (GBox W5 br #[.slice NA n1 nc, .slice EA n2 ec, .slice VA n3 vc, .slice UA n4 uc]) := ⟨(hb45.block br HX4.out.2).trans HR4.out⟩
      have HB5 := Aside0.mk (below_then HB4.out hb45)
      have HX5 : Aside0 (br < bm ∧ bm < W5.heap.size ∧ w.heap.size ≤ bm) := ⟨by
        have h1 := HX4.out
        have h2 := (Array.getElem?_eq_some_iff.1 HM5.out).1
        omega⟩
      go_upto_region 6 with (fail)
      rw [← hW5, ← hbm]
      clear hW5 hbm hb45 hr4 HR4 HB4 HX4
      obtain ⟨k, hk⟩ : ∃ k, k = z.toNat % n3 := ⟨_, rfl⟩
      have hkn : k < n3 := by rw [hk]; exact Nat.mod_lt _ h0
      have hkl : k < ns.length := by have := HN.out; omega
      obtain ⟨ad, hVA, hh⟩ := HG.out.ns.row k hkl
      subst hVA
      have HPK := Aside0.mk (HPN.out k (by first | rfl | trivial) hkn)
      have hgx : goodND w (ns.getD k ND.zero) := ReadsG.all_N HG.out.ns _ (getD_in ns ND.zero k hkl)
      obtain ⟨x, hx⟩ : ∃ x, x = ns.getD k ND.zero := ⟨_, rfl⟩
      rw [← hx] at hh hgx HPK
      obtain ⟨xid, xlb, xA, xqs, xc⟩ := x
      have HGN : Aside0 ((∀ x ∈ ns, goodND w x) ∧ goodND w (⟨xid, xlb, xA, xqs, xc⟩ : ND)) := ⟨ReadsG.all_N HG.out.ns, hgx⟩
      obtain ⟨hlt, hsp, r0, r1, r2⟩ := hh
      simp only at r0 r1 r2
      have HROW : Aside0 (∀ X : World, (∀ j, j < w.heap.size → X.heap[j]? = w.heap[j]?) → X.cell? (ad.add (k * 3)) = some (.int .i64 xid) ∧ X.cell? ⟨(ad.add (k * 3)).block, (ad.add (k * 3)).off + 1, none⟩ = some (.string xlb) ∧ X.cell? ⟨(ad.add (k * 3)).block, (ad.add (k * 3)).off + 2, none⟩ = some (.slice xA xqs.length xc)) := ⟨fun X h => ⟨(World.cell?_of_block (h _ hlt)).trans r0, (World.cell?_of_block (a := ⟨(ad.add (k * 3)).block, (ad.add (k * 3)).off + 1, none⟩) (h _ hlt)).trans r1, (World.cell?_of_block (a := ⟨(ad.add (k * 3)).block, (ad.add (k * 3)).off + 2, none⟩) (h _ hlt)).trans r2⟩⟩
      have hzw : IntKind.i64.wrap z = z := by rw [IntKind.wrap_i64]; omega
      have hmod : z % (n3 : Int) = (k : Int) := by
        rw [hk]
        have e : z = (z.toNat : Int) := by omega
        conv => lhs; rw [e]
        rfl
      have htmod : z.tmod (n3 : Int) = (k : Int) := by
        rw [← hmod]
        exact Int.tmod_eq_emod_of_nonneg hz0
      have hkw : IntKind.i64.wrap (k : Int) = (k : Int) := by rw [IntKind.wrap_i64]; omega
      have hki : (k : Int) < (n3 : Int) := by omega
      have hk0 : (0 : Int) ≤ (k : Int) := by omega
      have hn3ne : (n3 : Int) ≠ 0 := by omega
      have hn3z : ¬ n3 = 0 := by omega
      have HKK := Aside0.mk (And.intro hk hx)
      clear hk hx hkl hgx hlt hsp r0 r1 r2 hmod
      have HEC : Aside0 ((#[.int .i64 xid, .string xlb, .slice xA xqs.length xc] : Array Value) = (cellsND (⟨xid, xlb, xA, xqs, xc⟩ : ND)).toArray) := ⟨rfl⟩
      have HREADN : Aside0 (∀ X, Below W5.heap.size W5 X → ReadsN X (some ad) ns) := ⟨fun X h => HG.out.ns.below (below_then HB5.out h)⟩
      have HSX : Aside0 (∀ X : World, (∀ k, k < W5.heap.size → k ≠ bm → X.heap[k]? = W5.heap[k]?) → (fun WW : World => WW.cell? ⟨br, 2, none⟩ = some (.slice (some ad) n3 vc) ∧ WW.cell? (ad.add (k * 3)) = some (.int .i64 xid) ∧ WW.cell? ⟨(ad.add (k * 3)).block, (ad.add (k * 3)).off + 1, none⟩ = some (.string xlb) ∧ WW.cell? ⟨(ad.add (k * 3)).block, (ad.add (k * 3)).off + 2, none⟩ = some (.slice xA xqs.length xc)) X) := ⟨fun X h => ⟨(World.cell?_of_block (a := ⟨br, 2, none⟩) (h br (by have := HX5.out; omega) (by have := HX5.out; omega))).trans (HR5.out.cells 2), HROW.out X (fun j hj => (h j (by have := HB5.out.size; omega) (by have := HX5.out; omega)).trans (HB5.out.block j hj))⟩⟩
      go_cut [] from 9999 (fun X => Below w.heap.size w X ∧ W5.heap.size ≤ X.heap.size ∧ (∀ k, k < W5.heap.size → k ≠ bm → X.heap[k]? = W5.heap[k]?) ∧ ∃ A8 c8, GBox X bm #[.slice NA n1 nc, .slice EA n2 ec, .slice A8 (n3 + 1) c8, .slice UA n4 uc] ∧ ReadsN X A8 (ns ++ [(⟨xid, xlb, xA, xqs, xc⟩ : ND)]))
      case first =>
        refine wp_region_held_drew (S := (fun WW : World => WW.cell? ⟨br, 2, none⟩ = some (.slice (some ad) n3 vc) ∧ WW.cell? (ad.add (k * 3)) = some (.int .i64 xid) ∧ WW.cell? ⟨(ad.add (k * 3)).block, (ad.add (k * 3)).off + 1, none⟩ = some (.string xlb) ∧ WW.cell? ⟨(ad.add (k * 3)).block, (ad.add (k * 3)).off + 2, none⟩ = some (.slice xA xqs.length xc))) (by kernel_rfl) ?_ (fun hHeld => ?_)
        · exact HSX.out _ (fun k h1 h2 => rfl)
        refine take_in (i := 1) (v := ?v1az1) rfl (by kernel_rfl) (by kernel_rfl) (by kernel_rfl) (fun _ _ _ h => h) (by rfl) ?hy1az1 (by assumption) ?_
        case hy1az1 => intro WW hSw; (try dsimp only at hSw); go_simp; try with_reducible rfl
        try simp only [Act.put, List.setIfInBounds_toArray, List.set_cons_zero, List.set_cons_succ]
        refine take_in (i := 2) (v := ?v2az2) rfl (by kernel_rfl) (by kernel_rfl) (by kernel_rfl) (fun _ _ _ h => h) (by rfl) ?hy2az2 (by assumption) ?_
        case hy2az2 => intro WW hSw; (try dsimp only at hSw); go_simp; try with_reducible rfl
        try simp only [Act.put, List.setIfInBounds_toArray, List.set_cons_zero, List.set_cons_succ]
        refine take_in (i := 4) (v := ?v4az3) rfl (by kernel_rfl) (by kernel_rfl) (by kernel_rfl) (fun _ _ _ h => h) (by rfl) ?hy4az3 (by assumption) ?_
        case hy4az3 => intro WW hSw; (try dsimp only at hSw); go_simp; try with_reducible rfl
        try simp only [Act.put, List.setIfInBounds_toArray, List.set_cons_zero, List.set_cons_succ]
        refine take_in (i := 5) (v := ?v5az4) rfl (by kernel_rfl) (by kernel_rfl) (by kernel_rfl) (fun _ _ _ h => h) (by rfl) ?hy5az4 (by assumption) ?_
        case hy5az4 => intro WW hSw; (try dsimp only at hSw); go_simp; try with_reducible rfl
        try simp only [Act.put, List.setIfInBounds_toArray, List.set_cons_zero, List.set_cons_succ]
        refine take_in (i := 6) (v := ?v6az5) rfl (by kernel_rfl) (by kernel_rfl) (by kernel_rfl) (fun _ _ _ h => h) (by rfl) ?hy6az5 (by assumption) ?_
        case hy6az5 => intro WW hSw; (try dsimp only at hSw); go_simp; try with_reducible rfl
        try simp only [Act.put, List.setIfInBounds_toArray, List.set_cons_zero, List.set_cons_succ]
        refine take_in (i := 7) (v := .int .i64 z) rfl (by kernel_rfl) (by kernel_rfl) (by kernel_rfl) (fun _ _ _ h => h) (by rfl) ?hy7az6 (by assumption) ?_
        case hy7az6 => intro WW hSw; obtain ⟨s0, s1, s2, s3⟩ := hSw; go_simp; try with_reducible rfl
        try simp only [Act.put, List.setIfInBounds_toArray, List.set_cons_zero, List.set_cons_succ]
        refine take_in (i := 8) (v := ?v8az7) rfl (by kernel_rfl) (by kernel_rfl) (by kernel_rfl) (fun _ _ _ h => h) (by rfl) ?hy8az7 (by assumption) ?_
        case hy8az7 => intro WW hSw; (try dsimp only at hSw); go_simp; try with_reducible rfl
        try simp only [Act.put, List.setIfInBounds_toArray, List.set_cons_zero, List.set_cons_succ]
        refine take_in (i := 9) (v := ?v9az8) rfl (by kernel_rfl) (by kernel_rfl) (by kernel_rfl) (fun _ _ _ h => h) (by rfl) ?hy9az8 (by assumption) ?_
        case hy9az8 => intro WW hSw; (try dsimp only at hSw); go_simp; try with_reducible rfl
        try simp only [Act.put, List.setIfInBounds_toArray, List.set_cons_zero, List.set_cons_succ]
        refine take_in (i := 10) (v := ?v10az9) rfl (by kernel_rfl) (by kernel_rfl) (by kernel_rfl) (fun _ _ _ h => h) (by rfl) ?hy10az9 (by assumption) ?_
        case hy10az9 => intro WW hSw; obtain ⟨s0, s1, s2, s3⟩ := hSw; go_simp; try with_reducible rfl
        try simp only [Act.put, List.setIfInBounds_toArray, List.set_cons_zero, List.set_cons_succ]
        refine take_in (i := 11) (v := .int .i64 (k : Int)) rfl (by kernel_rfl) (by kernel_rfl) (by kernel_rfl) (fun _ _ _ h => h) (by rfl) ?hy11az10 (by assumption) ?_
        case hy11az10 => intro WW hSw; obtain ⟨s0, s1, s2, s3⟩ := hSw; go_simp; try with_reducible rfl
        try simp only [Act.put, List.setIfInBounds_toArray, List.set_cons_zero, List.set_cons_succ]
        refine take_in (i := 12) (v := .pointer (some (ad.add (k * 3)))) rfl (by kernel_rfl) (by kernel_rfl) (by kernel_rfl) (fun _ _ _ h => h) (by rfl) ?hy12az11 (by assumption) ?_
        case hy12az11 => intro WW hSw; obtain ⟨s0, s1, s2, s3⟩ := hSw; go_simp; try with_reducible rfl
        try simp only [Act.put, List.setIfInBounds_toArray, List.set_cons_zero, List.set_cons_succ]
        refine take_in (i := 13) (v := .agg #[.int .i64 xid, .string xlb, .slice xA xqs.length xc]) rfl (by kernel_rfl) (by kernel_rfl) (by kernel_rfl) (fun _ _ _ h => h) (by rfl) ?hy13az12 (by assumption) ?_
        case hy13az12 => intro WW hSw; obtain ⟨s0, s1, s2, s3⟩ := hSw; go_simp; try with_reducible rfl
        try simp only [Act.put, List.setIfInBounds_toArray, List.set_cons_zero, List.set_cons_succ]
        refine name_world (F := fun X => Below W5.heap.size W5 X) (by first | exact Below.refl _ _ | exact (Below.refl _ _).drew | exact (Below.refl _ _).drew.drew) (fun aY0 HBaY0 => ?_)
        clear hHeld
        have hHeld : (fun WW : World => WW.cell? ⟨br, 2, none⟩ = some (.slice (some ad) n3 vc) ∧ WW.cell? (ad.add (k * 3)) = some (.int .i64 xid) ∧ WW.cell? ⟨(ad.add (k * 3)).block, (ad.add (k * 3)).off + 1, none⟩ = some (.string xlb) ∧ WW.cell? ⟨(ad.add (k * 3)).block, (ad.add (k * 3)).off + 2, none⟩ = some (.slice xA xqs.length xc)) aY0 := (HSX.out _ (fun k h1 h2 => HBaY0.block k h1))
        refine two_step (i := 0) (j := 14) (by kernel_rfl) rfl rfl (fun K hK => ?_) (fun K hK => ?_)
        · go_simp
          refine hK.out _ _ (HSX.out _ (fun k h1 h2 => (HBaY0.alloc HBaY0.size _).block k h1)) (fun hHeld => ?_)
          clear hHeld hK K
          try simp only [Act.put, List.setIfInBounds_toArray, List.set_cons_zero, List.set_cons_succ]
          refine name_world (F := fun X => Below W5.heap.size W5 X ∧ X.ownsRow W5.heap.size 29 3 (.slice (some ⟨aY0.heap.size, 0, none⟩) 0 0) 0 []) ⟨HBaY0.alloc HBaY0.size _, own_empty_N aY0 _ HBaY0.size⟩ (fun aY1 hF => ?_)
          obtain ⟨HBaY1, hEaY1⟩ := hF
          have hHeld : (fun WW : World => WW.cell? ⟨br, 2, none⟩ = some (.slice (some ad) n3 vc) ∧ WW.cell? (ad.add (k * 3)) = some (.int .i64 xid) ∧ WW.cell? ⟨(ad.add (k * 3)).block, (ad.add (k * 3)).off + 1, none⟩ = some (.string xlb) ∧ WW.cell? ⟨(ad.add (k * 3)).block, (ad.add (k * 3)).off + 2, none⟩ = some (.slice xA xqs.length xc)) aY1 := (HSX.out _ (fun k h1 h2 => HBaY1.block k h1))
          obtain ⟨gE, hgaY1⟩ : ∃ g, g = aY0.heap.size := ⟨_, rfl⟩
          simp only [← hgaY1] at hEaY1 ⊢
          clear hgaY1
          clear HBaY0
          refine two_step (i := 3) (j := 14) (by kernel_rfl) rfl rfl (fun K hK => ?_) (fun K hK => ?_)
          · refine of_if (by rfl) ?_
            refine app_all_N (.tmp 32) (.tmp 34) rfl W5.heap.size _ rfl hEaY1 (some ad) ns n3 vc HN.out.1 rfl HVA.out (HREADN.out aY1 HBaY1) (by have := hN; omega) HBaY1.size ?_
            intro v2 Z hT0 hb0 hg0
            have HBZ : Below W5.heap.size W5 Z := HBaY1.trans hb0
            refine hK.out _ _ (HSX.out _ (fun k h1 h2 => HBZ.block k h1)) (fun hHeld => ?_)
            clear hHeld hK K
            try simp only [Act.put, List.setIfInBounds_toArray, List.set_cons_zero, List.set_cons_succ]
            refine name_world (F := fun X => Below W5.heap.size W5 X ∧ X.ownsRow W5.heap.size 29 3 v2 n3 (ns.flatMap cellsND)) ⟨HBZ, hT0⟩ (fun aY2 hF => ?_)
            obtain ⟨HBaY2, hTaY2⟩ := hF
            have hHeld : (fun WW : World => WW.cell? ⟨br, 2, none⟩ = some (.slice (some ad) n3 vc) ∧ WW.cell? (ad.add (k * 3)) = some (.int .i64 xid) ∧ WW.cell? ⟨(ad.add (k * 3)).block, (ad.add (k * 3)).off + 1, none⟩ = some (.string xlb) ∧ WW.cell? ⟨(ad.add (k * 3)).block, (ad.add (k * 3)).off + 2, none⟩ = some (.slice xA xqs.length xc)) aY2 := (HSX.out _ (fun k h1 h2 => HBaY2.block k h1))
            clear HBaY1
            clear hEaY1
            clear hT0 hb0 hg0 HBZ
            refine one_step (i := 14) (by kernel_rfl) rfl (fun K hK => ?_)
            go_simp
            refine hK.out _ _ (HSX.out _ (fun k h1 h2 => (HBaY2.alloc HBaY2.size _).block k h1)) (fun hHeld => ?_)
            clear hHeld hK K
            try simp only [Act.put, List.setIfInBounds_toArray, List.set_cons_zero, List.set_cons_succ]
            refine name_world (F := fun X => Below W5.heap.size W5 X ∧ NBox X aY2.heap.size #[.int .i64 xid, .string xlb, .slice xA xqs.length xc] ∧ X.ownsRow W5.heap.size 29 3 v2 n3 (ns.flatMap cellsND)) ⟨HBaY2.alloc HBaY2.size _, heap_alloc_new aY2 _, hTaY2.alloc _⟩ (fun aY3 hF => ?_)
            obtain ⟨HBaY3, h7aY3, hTaY3⟩ := hF
            have hHeld : (fun WW : World => WW.cell? ⟨br, 2, none⟩ = some (.slice (some ad) n3 vc) ∧ WW.cell? (ad.add (k * 3)) = some (.int .i64 xid) ∧ WW.cell? ⟨(ad.add (k * 3)).block, (ad.add (k * 3)).off + 1, none⟩ = some (.string xlb) ∧ WW.cell? ⟨(ad.add (k * 3)).block, (ad.add (k * 3)).off + 2, none⟩ = some (.slice xA xqs.length xc)) aY3 := (HSX.out _ (fun k h1 h2 => HBaY3.block k h1))
            obtain ⟨g7, hgaY3⟩ : ∃ g, g = aY2.heap.size := ⟨_, rfl⟩
            simp only [← hgaY3] at h7aY3 ⊢
            clear hgaY3
            clear HBaY2
            clear hTaY2
            refine one_step (i := 15) (by kernel_rfl) rfl (fun K hK => ?_)
            refine of_if (by rfl) ?_
            refine app_one_N (.tmp 35) (.tmp 46) rfl W5.heap.size _ _ _ rfl hTaY3 g7 (⟨xid, xlb, xA, xqs, xc⟩ : ND) rfl (by rw [← HEC.out]; exact h7aY3) (by have := hN; omega) HBaY3.size ?_
            intro v8 Z8 hT8 hb8 hg8
            have HB8 : Below W5.heap.size W5 Z8 := HBaY3.trans hb8
            obtain ⟨A8, c8, rfl, hr8⟩ := read_more_N HN.out.1 hT8 (by have := hN; omega) (fun x hx => (HGN.out.1 x hx).below (below_then HB5.out HB8)) (HGN.out.2.below (below_then HB5.out HB8))
            clear hr8 hb8 hg8
            refine hK.out _ _ (HSX.out _ (fun k h1 h2 => HB8.block k h1)) (fun hHeld => ?_)
            clear hHeld hK K
            try simp only [Act.put, List.setIfInBounds_toArray, List.set_cons_zero, List.set_cons_succ]
            refine name_world (F := fun X => Below W5.heap.size W5 X ∧ X.ownsRow W5.heap.size 29 3 (.slice A8 (n3 + 1) c8) (n3 + 1) (ns.flatMap cellsND ++ cellsND (⟨xid, xlb, xA, xqs, xc⟩ : ND))) ⟨HB8, hT8⟩ (fun aX8 hF => ?_)
            obtain ⟨HBaX8, hTaX8⟩ := hF
            have hHeld : (fun WW : World => WW.cell? ⟨br, 2, none⟩ = some (.slice (some ad) n3 vc) ∧ WW.cell? (ad.add (k * 3)) = some (.int .i64 xid) ∧ WW.cell? ⟨(ad.add (k * 3)).block, (ad.add (k * 3)).off + 1, none⟩ = some (.string xlb) ∧ WW.cell? ⟨(ad.add (k * 3)).block, (ad.add (k * 3)).off + 2, none⟩ = some (.slice xA xqs.length xc)) aX8 := (HSX.out _ (fun k h1 h2 => HBaX8.block k h1))
            clear HB8 hT8 HBaY3 hTaY3 h7aY3
            refine take_in (i := 16) (v := ?v16az13) rfl (by kernel_rfl) (by kernel_rfl) (by kernel_rfl) (fun _ _ _ h => h) (by rfl) ?hy16az13 (by assumption) ?_
            case hy16az13 => intro WW hSw; (try dsimp only at hSw); go_simp; try with_reducible rfl
            try simp only [Act.put, List.setIfInBounds_toArray, List.set_cons_zero, List.set_cons_succ]
            have hfz : aX8.frozen? ⟨bm, 2, none⟩ = false := GBox.free (W := aX8) (b := bm) ((HBaX8.block _ (by have := HX5.out; omega)).trans HM5.out) 2
            have hcl := GBox.cells (W := aX8) (b := bm) ((HBaX8.block _ (by have := HX5.out; omega)).trans HM5.out) 2
            refine one_step (i := 17) (by kernel_rfl) rfl (fun K hK => ?_)
            go_simp
            refine hK.out _ _ (HSX.out _ (fun k h1 h2 => (heap_setCell_other _ _ _ _ h2).trans (HBaX8.block k h1))) (fun hHeld => ?_)
            clear hHeld hK K
            try simp only [Act.put, List.setIfInBounds_toArray, List.set_cons_zero, List.set_cons_succ]
            refine wpAnyH_done (by kernel_rfl) ?_ _
            go_wp2
            go_meet
            case rel =>
              have hbY : Below W5.heap.size W5 _ := HBaX8
              have hdx := HX5.out
              have hbw := below_set (below_then HB5.out HBaX8) (p := ⟨bm, 2, none⟩) (by show w.heap.size ≤ bm; omega) (.slice A8 (n3 + 1) c8)
              obtain ⟨A9, c9, he9, hr9⟩ := read_more_N HN.out.1 (own_set hTaX8 ⟨bm, 2, none⟩ (.slice A8 (n3 + 1) c8) (by show bm < W5.heap.size; omega)) (by have := hN; omega) (fun x hx => (HGN.out.1 x hx).below hbw) (HGN.out.2.below hbw)
              cases he9
              exact ⟨hbw, by have := HBaX8.size; simp; omega, fun k h1 h2 => (heap_setCell_other _ _ _ _ h2).trans (HBaX8.block k h1), A8, c8, GBox.put (W := aX8) (b := bm) ((HBaX8.block _ (by omega)).trans HM5.out) 2 _, hr9⟩
          · go_simp
            refine hK.out _ _ (HSX.out _ (fun k h1 h2 => (HBaY1.alloc HBaY1.size _).block k h1)) (fun hHeld => ?_)
            clear hHeld hK K
            try simp only [Act.put, List.setIfInBounds_toArray, List.set_cons_zero, List.set_cons_succ]
            refine name_world (F := fun X => Below W5.heap.size W5 X ∧ NBox X aY1.heap.size #[.int .i64 xid, .string xlb, .slice xA xqs.length xc] ∧ X.ownsRow W5.heap.size 29 3 (.slice (some ⟨gE, 0, none⟩) 0 0) 0 [] ∧ (Value.slice (some ⟨gE, 0, none⟩) 0 0).ownBlock ≠ some aY1.heap.size) ⟨HBaY1.alloc HBaY1.size _, heap_alloc_new aY1 _, hEaY1.alloc _, fun e => by have := (hEaY1.lt _ e).2; omega⟩ (fun aY2 hF => ?_)
            obtain ⟨HBaY2, h7aY2, hEaY2, hnaY2⟩ := hF
            have hHeld : (fun WW : World => WW.cell? ⟨br, 2, none⟩ = some (.slice (some ad) n3 vc) ∧ WW.cell? (ad.add (k * 3)) = some (.int .i64 xid) ∧ WW.cell? ⟨(ad.add (k * 3)).block, (ad.add (k * 3)).off + 1, none⟩ = some (.string xlb) ∧ WW.cell? ⟨(ad.add (k * 3)).block, (ad.add (k * 3)).off + 2, none⟩ = some (.slice xA xqs.length xc)) aY2 := (HSX.out _ (fun k h1 h2 => HBaY2.block k h1))
            obtain ⟨g7, hgaY2⟩ : ∃ g, g = aY1.heap.size := ⟨_, rfl⟩
            simp only [← hgaY2] at h7aY2 hnaY2 ⊢
            clear hgaY2
            clear HBaY1
            clear hEaY1
            refine one_step (i := 3) (by kernel_rfl) rfl (fun K hK => ?_)
            refine of_if (by rfl) ?_
            refine app_all_N (.tmp 32) (.tmp 34) rfl W5.heap.size _ rfl hEaY2 (some ad) ns n3 vc HN.out.1 rfl HVA.out (HREADN.out aY2 HBaY2) (by have := hN; omega) HBaY2.size ?_
            intro v2 Z hT0 hb0 hg0
            have HBZ : Below W5.heap.size W5 Z := HBaY2.trans hb0
            have h7Z : NBox Z g7 #[.int .i64 xid, .string xlb, .slice xA xqs.length xc] := (hg0.block _ (Array.getElem?_eq_some_iff.1 h7aY2).1 (fun e => hnaY2 e.symm)).trans h7aY2
            refine hK.out _ _ (HSX.out _ (fun k h1 h2 => HBZ.block k h1)) (fun hHeld => ?_)
            clear hHeld hK K
            try simp only [Act.put, List.setIfInBounds_toArray, List.set_cons_zero, List.set_cons_succ]
            refine name_world (F := fun X => Below W5.heap.size W5 X ∧ X.ownsRow W5.heap.size 29 3 v2 n3 (ns.flatMap cellsND) ∧ NBox X g7 #[.int .i64 xid, .string xlb, .slice xA xqs.length xc]) ⟨HBZ, hT0, h7Z⟩ (fun aY3 hF => ?_)
            obtain ⟨HBaY3, hTaY3, h7aY3⟩ := hF
            have hHeld : (fun WW : World => WW.cell? ⟨br, 2, none⟩ = some (.slice (some ad) n3 vc) ∧ WW.cell? (ad.add (k * 3)) = some (.int .i64 xid) ∧ WW.cell? ⟨(ad.add (k * 3)).block, (ad.add (k * 3)).off + 1, none⟩ = some (.string xlb) ∧ WW.cell? ⟨(ad.add (k * 3)).block, (ad.add (k * 3)).off + 2, none⟩ = some (.slice xA xqs.length xc)) aY3 := (HSX.out _ (fun k h1 h2 => HBaY3.block k h1))
            clear HBaY2
            clear hEaY2 h7aY2 hnaY2
            clear hT0 hb0 hg0 HBZ h7Z
            refine one_step (i := 15) (by kernel_rfl) rfl (fun K hK => ?_)
            refine of_if (by rfl) ?_
            refine app_one_N (.tmp 35) (.tmp 46) rfl W5.heap.size _ _ _ rfl hTaY3 g7 (⟨xid, xlb, xA, xqs, xc⟩ : ND) rfl (by rw [← HEC.out]; exact h7aY3) (by have := hN; omega) HBaY3.size ?_
            intro v8 Z8 hT8 hb8 hg8
            have HB8 : Below W5.heap.size W5 Z8 := HBaY3.trans hb8
            obtain ⟨A8, c8, rfl, hr8⟩ := read_more_N HN.out.1 hT8 (by have := hN; omega) (fun x hx => (HGN.out.1 x hx).below (below_then HB5.out HB8)) (HGN.out.2.below (below_then HB5.out HB8))
            clear hr8 hb8 hg8
            refine hK.out _ _ (HSX.out _ (fun k h1 h2 => HB8.block k h1)) (fun hHeld => ?_)
            clear hHeld hK K
            try simp only [Act.put, List.setIfInBounds_toArray, List.set_cons_zero, List.set_cons_succ]
            refine name_world (F := fun X => Below W5.heap.size W5 X ∧ X.ownsRow W5.heap.size 29 3 (.slice A8 (n3 + 1) c8) (n3 + 1) (ns.flatMap cellsND ++ cellsND (⟨xid, xlb, xA, xqs, xc⟩ : ND))) ⟨HB8, hT8⟩ (fun aX8 hF => ?_)
            obtain ⟨HBaX8, hTaX8⟩ := hF
            have hHeld : (fun WW : World => WW.cell? ⟨br, 2, none⟩ = some (.slice (some ad) n3 vc) ∧ WW.cell? (ad.add (k * 3)) = some (.int .i64 xid) ∧ WW.cell? ⟨(ad.add (k * 3)).block, (ad.add (k * 3)).off + 1, none⟩ = some (.string xlb) ∧ WW.cell? ⟨(ad.add (k * 3)).block, (ad.add (k * 3)).off + 2, none⟩ = some (.slice xA xqs.length xc)) aX8 := (HSX.out _ (fun k h1 h2 => HBaX8.block k h1))
            clear HB8 hT8 HBaY3 hTaY3 h7aY3
            refine take_in (i := 16) (v := ?v16az14) rfl (by kernel_rfl) (by kernel_rfl) (by kernel_rfl) (fun _ _ _ h => h) (by rfl) ?hy16az14 (by assumption) ?_
            case hy16az14 => intro WW hSw; (try dsimp only at hSw); go_simp; try with_reducible rfl
            try simp only [Act.put, List.setIfInBounds_toArray, List.set_cons_zero, List.set_cons_succ]
            have hfz : aX8.frozen? ⟨bm, 2, none⟩ = false := GBox.free (W := aX8) (b := bm) ((HBaX8.block _ (by have := HX5.out; omega)).trans HM5.out) 2
            have hcl := GBox.cells (W := aX8) (b := bm) ((HBaX8.block _ (by have := HX5.out; omega)).trans HM5.out) 2
            refine one_step (i := 17) (by kernel_rfl) rfl (fun K hK => ?_)
            go_simp
            refine hK.out _ _ (HSX.out _ (fun k h1 h2 => (heap_setCell_other _ _ _ _ h2).trans (HBaX8.block k h1))) (fun hHeld => ?_)
            clear hHeld hK K
            try simp only [Act.put, List.setIfInBounds_toArray, List.set_cons_zero, List.set_cons_succ]
            refine wpAnyH_done (by kernel_rfl) ?_ _
            go_wp2
            go_meet
            case rel =>
              have hbY : Below W5.heap.size W5 _ := HBaX8
              have hdx := HX5.out
              have hbw := below_set (below_then HB5.out HBaX8) (p := ⟨bm, 2, none⟩) (by show w.heap.size ≤ bm; omega) (.slice A8 (n3 + 1) c8)
              obtain ⟨A9, c9, he9, hr9⟩ := read_more_N HN.out.1 (own_set hTaX8 ⟨bm, 2, none⟩ (.slice A8 (n3 + 1) c8) (by show bm < W5.heap.size; omega)) (by have := hN; omega) (fun x hx => (HGN.out.1 x hx).below hbw) (HGN.out.2.below hbw)
              cases he9
              exact ⟨hbw, by have := HBaX8.size; simp; omega, fun k h1 h2 => (heap_setCell_other _ _ _ _ h2).trans (HBaX8.block k h1), A8, c8, GBox.put (W := aX8) (b := bm) ((HBaX8.block _ (by omega)).trans HM5.out) 2 _, hr9⟩
        · go_simp
          refine hK.out _ _ (HSX.out _ (fun k h1 h2 => (HBaY0.alloc HBaY0.size _).block k h1)) (fun hHeld => ?_)
          clear hHeld hK K
          try simp only [Act.put, List.setIfInBounds_toArray, List.set_cons_zero, List.set_cons_succ]
          refine name_world (F := fun X => Below W5.heap.size W5 X ∧ NBox X aY0.heap.size #[.int .i64 xid, .string xlb, .slice xA xqs.length xc]) ⟨HBaY0.alloc HBaY0.size _, heap_alloc_new aY0 _⟩ (fun aY1 hF => ?_)
          obtain ⟨HBaY1, h7aY1⟩ := hF
          have hHeld : (fun WW : World => WW.cell? ⟨br, 2, none⟩ = some (.slice (some ad) n3 vc) ∧ WW.cell? (ad.add (k * 3)) = some (.int .i64 xid) ∧ WW.cell? ⟨(ad.add (k * 3)).block, (ad.add (k * 3)).off + 1, none⟩ = some (.string xlb) ∧ WW.cell? ⟨(ad.add (k * 3)).block, (ad.add (k * 3)).off + 2, none⟩ = some (.slice xA xqs.length xc)) aY1 := (HSX.out _ (fun k h1 h2 => HBaY1.block k h1))
          obtain ⟨g7, hgaY1⟩ : ∃ g, g = aY0.heap.size := ⟨_, rfl⟩
          simp only [← hgaY1] at h7aY1 ⊢
          clear hgaY1
          clear HBaY0
          refine one_step (i := 0) (by kernel_rfl) rfl (fun K hK => ?_)
          go_simp
          refine hK.out _ _ (HSX.out _ (fun k h1 h2 => (HBaY1.alloc HBaY1.size _).block k h1)) (fun hHeld => ?_)
          clear hHeld hK K
          try simp only [Act.put, List.setIfInBounds_toArray, List.set_cons_zero, List.set_cons_succ]
          refine name_world (F := fun X => Below W5.heap.size W5 X ∧ X.ownsRow W5.heap.size 29 3 (.slice (some ⟨aY1.heap.size, 0, none⟩) 0 0) 0 [] ∧ NBox X g7 #[.int .i64 xid, .string xlb, .slice xA xqs.length xc] ∧ (Value.slice (some ⟨aY1.heap.size, 0, none⟩) 0 0).ownBlock ≠ some g7) ⟨HBaY1.alloc HBaY1.size _, own_empty_N aY1 _ HBaY1.size, (heap_alloc_old _ _ (Array.getElem?_eq_some_iff.1 h7aY1).1).trans h7aY1, fun e => by have h : aY1.heap.size = g7 := Option.some.inj e; have := (Array.getElem?_eq_some_iff.1 h7aY1).1; omega⟩ (fun aY2 hF => ?_)
          obtain ⟨HBaY2, hEaY2, h7aY2, hnaY2⟩ := hF
          have hHeld : (fun WW : World => WW.cell? ⟨br, 2, none⟩ = some (.slice (some ad) n3 vc) ∧ WW.cell? (ad.add (k * 3)) = some (.int .i64 xid) ∧ WW.cell? ⟨(ad.add (k * 3)).block, (ad.add (k * 3)).off + 1, none⟩ = some (.string xlb) ∧ WW.cell? ⟨(ad.add (k * 3)).block, (ad.add (k * 3)).off + 2, none⟩ = some (.slice xA xqs.length xc)) aY2 := (HSX.out _ (fun k h1 h2 => HBaY2.block k h1))
          obtain ⟨gE, hgaY2⟩ : ∃ g, g = aY1.heap.size := ⟨_, rfl⟩
          simp only [← hgaY2] at hEaY2 hnaY2 ⊢
          clear hgaY2
          clear HBaY1
          clear h7aY1
          refine one_step (i := 3) (by kernel_rfl) rfl (fun K hK => ?_)
          refine of_if (by rfl) ?_
          refine app_all_N (.tmp 32) (.tmp 34) rfl W5.heap.size _ rfl hEaY2 (some ad) ns n3 vc HN.out.1 rfl HVA.out (HREADN.out aY2 HBaY2) (by have := hN; omega) HBaY2.size ?_
          intro v2 Z hT0 hb0 hg0
          have HBZ : Below W5.heap.size W5 Z := HBaY2.trans hb0
          have h7Z : NBox Z g7 #[.int .i64 xid, .string xlb, .slice xA xqs.length xc] := (hg0.block _ (Array.getElem?_eq_some_iff.1 h7aY2).1 (fun e => hnaY2 e.symm)).trans h7aY2
          refine hK.out _ _ (HSX.out _ (fun k h1 h2 => HBZ.block k h1)) (fun hHeld => ?_)
          clear hHeld hK K
          try simp only [Act.put, List.setIfInBounds_toArray, List.set_cons_zero, List.set_cons_succ]
          refine name_world (F := fun X => Below W5.heap.size W5 X ∧ X.ownsRow W5.heap.size 29 3 v2 n3 (ns.flatMap cellsND) ∧ NBox X g7 #[.int .i64 xid, .string xlb, .slice xA xqs.length xc]) ⟨HBZ, hT0, h7Z⟩ (fun aY3 hF => ?_)
          obtain ⟨HBaY3, hTaY3, h7aY3⟩ := hF
          have hHeld : (fun WW : World => WW.cell? ⟨br, 2, none⟩ = some (.slice (some ad) n3 vc) ∧ WW.cell? (ad.add (k * 3)) = some (.int .i64 xid) ∧ WW.cell? ⟨(ad.add (k * 3)).block, (ad.add (k * 3)).off + 1, none⟩ = some (.string xlb) ∧ WW.cell? ⟨(ad.add (k * 3)).block, (ad.add (k * 3)).off + 2, none⟩ = some (.slice xA xqs.length xc)) aY3 := (HSX.out _ (fun k h1 h2 => HBaY3.block k h1))
          clear HBaY2
          clear hEaY2 h7aY2 hnaY2
          clear hT0 hb0 hg0 HBZ h7Z
          refine one_step (i := 15) (by kernel_rfl) rfl (fun K hK => ?_)
          refine of_if (by rfl) ?_
          refine app_one_N (.tmp 35) (.tmp 46) rfl W5.heap.size _ _ _ rfl hTaY3 g7 (⟨xid, xlb, xA, xqs, xc⟩ : ND) rfl (by rw [← HEC.out]; exact h7aY3) (by have := hN; omega) HBaY3.size ?_
          intro v8 Z8 hT8 hb8 hg8
          have HB8 : Below W5.heap.size W5 Z8 := HBaY3.trans hb8
          obtain ⟨A8, c8, rfl, hr8⟩ := read_more_N HN.out.1 hT8 (by have := hN; omega) (fun x hx => (HGN.out.1 x hx).below (below_then HB5.out HB8)) (HGN.out.2.below (below_then HB5.out HB8))
          clear hr8 hb8 hg8
          refine hK.out _ _ (HSX.out _ (fun k h1 h2 => HB8.block k h1)) (fun hHeld => ?_)
          clear hHeld hK K
          try simp only [Act.put, List.setIfInBounds_toArray, List.set_cons_zero, List.set_cons_succ]
          refine name_world (F := fun X => Below W5.heap.size W5 X ∧ X.ownsRow W5.heap.size 29 3 (.slice A8 (n3 + 1) c8) (n3 + 1) (ns.flatMap cellsND ++ cellsND (⟨xid, xlb, xA, xqs, xc⟩ : ND))) ⟨HB8, hT8⟩ (fun aX8 hF => ?_)
          obtain ⟨HBaX8, hTaX8⟩ := hF
          have hHeld : (fun WW : World => WW.cell? ⟨br, 2, none⟩ = some (.slice (some ad) n3 vc) ∧ WW.cell? (ad.add (k * 3)) = some (.int .i64 xid) ∧ WW.cell? ⟨(ad.add (k * 3)).block, (ad.add (k * 3)).off + 1, none⟩ = some (.string xlb) ∧ WW.cell? ⟨(ad.add (k * 3)).block, (ad.add (k * 3)).off + 2, none⟩ = some (.slice xA xqs.length xc)) aX8 := (HSX.out _ (fun k h1 h2 => HBaX8.block k h1))
          clear HB8 hT8 HBaY3 hTaY3 h7aY3
          refine take_in (i := 16) (v := ?v16az15) rfl (by kernel_rfl) (by kernel_rfl) (by kernel_rfl) (fun _ _ _ h => h) (by rfl) ?hy16az15 (by assumption) ?_
          case hy16az15 => intro WW hSw; (try dsimp only at hSw); go_simp; try with_reducible rfl
          try simp only [Act.put, List.setIfInBounds_toArray, List.set_cons_zero, List.set_cons_succ]
          have hfz : aX8.frozen? ⟨bm, 2, none⟩ = false := GBox.free (W := aX8) (b := bm) ((HBaX8.block _ (by have := HX5.out; omega)).trans HM5.out) 2
          have hcl := GBox.cells (W := aX8) (b := bm) ((HBaX8.block _ (by have := HX5.out; omega)).trans HM5.out) 2
          refine one_step (i := 17) (by kernel_rfl) rfl (fun K hK => ?_)
          go_simp
          refine hK.out _ _ (HSX.out _ (fun k h1 h2 => (heap_setCell_other _ _ _ _ h2).trans (HBaX8.block k h1))) (fun hHeld => ?_)
          clear hHeld hK K
          try simp only [Act.put, List.setIfInBounds_toArray, List.set_cons_zero, List.set_cons_succ]
          refine wpAnyH_done (by kernel_rfl) ?_ _
          go_wp2
          go_meet
          case rel =>
            have hbY : Below W5.heap.size W5 _ := HBaX8
            have hdx := HX5.out
            have hbw := below_set (below_then HB5.out HBaX8) (p := ⟨bm, 2, none⟩) (by show w.heap.size ≤ bm; omega) (.slice A8 (n3 + 1) c8)
            obtain ⟨A9, c9, he9, hr9⟩ := read_more_N HN.out.1 (own_set hTaX8 ⟨bm, 2, none⟩ (.slice A8 (n3 + 1) c8) (by show bm < W5.heap.size; omega)) (by have := hN; omega) (fun x hx => (HGN.out.1 x hx).below hbw) (HGN.out.2.below hbw)
            cases he9
            exact ⟨hbw, by have := HBaX8.size; simp; omega, fun k h1 h2 => (heap_setCell_other _ _ _ _ h2).trans (HBaX8.block k h1), A8, c8, GBox.put (W := aX8) (b := bm) ((HBaX8.block _ (by omega)).trans HM5.out) 2 _, hr9⟩
      clear HSX

      case rest =>
        obtain ⟨hbc, hsc, hkc, A8, c8, hmc, hrc⟩ := hcut
        have HB6 := Aside0.mk hbc
        have HM6 := Aside0.mk hmc
        have HR6 : Aside0 (GBox wc br #[.slice NA n1 nc, .slice EA n2 ec, .slice (some ad) n3 vc, .slice UA n4 uc]) := ⟨(hkc br (by have := HX5.out; omega) (by have := HX5.out; omega)).trans HR5.out⟩
        have HX6 : Aside0 (br < bm ∧ bm < wc.heap.size ∧ w.heap.size ≤ bm) := ⟨by
          have h1 := HX5.out
          omega⟩
        have hck := HCKA.out (ns ++ [(⟨xid, xlb, xA, xqs, xc⟩ : ND)]) es A8 UA c8 uc wc hbc hrc (HG.out.es.below hbc)
        have hl : (ns ++ [(⟨xid, xlb, xA, xqs, xc⟩ : ND)]).length = n3 + 1 := by rw [List.length_append, ← HN.out.1]; rfl
        rw [HPK.out, hl, ← HN.out.2] at hck
        have hmx := hmc.cells
        clear hbc hsc hmc hrc hkc HR5 HM5 HB5 HX5 HREADN HGN HEC hl
        go_upto_region 8 with (go_at_call 7; go_loud (refine hck.mono ?_); first | (intro e W7 he hb7; subst he) | rintro e W7 ⟨rfl, hb7⟩)
        obtain ⟨W8, hW8⟩ : ∃ W8, W8 = W7.alloc (.cells #[.int .i64 3, .int .i64 (n3 : Int)] 35) := ⟨_, rfl⟩
        obtain ⟨bt, hbt⟩ : ∃ bt, bt = W7.heap.size := ⟨_, rfl⟩
        have hb68 : Below wc.heap.size wc W8 := by rw [hW8]; exact below_more hb7 _
        have HT8 : Aside0 (PBox W8 bt #[.int .i64 3, .int .i64 (n3 : Int)]) := ⟨by unfold PBox; rw [hbt, hW8]; exact heap_alloc_new W7 _⟩
        have HR8 : Aside0 (GBox W8 br #[.slice NA n1 nc, .slice EA n2 ec, .slice (some ad) n3 vc, .slice UA n4 uc]) := ⟨(hb68.block br (by have := HX6.out; omega)).trans HR6.out⟩
        have HM8 : Aside0 (GBox W8 bm #[.slice NA n1 nc, .slice EA n2 ec, .slice A8 (n3 + 1) c8, .slice UA n4 uc]) := ⟨(hb68.block bm (by have := HX6.out; omega)).trans HM6.out⟩
        have HB8 := Aside0.mk (below_then HB6.out hb68)
        have HX8 : Aside0 (br < bm ∧ bm < bt ∧ bt < W8.heap.size ∧ w.heap.size ≤ bm) := ⟨by
          have h1 := HX6.out
          have h2 := hb7.size
          have h3 : W8.heap.size = W7.heap.size + 1 := by rw [hW8]; simp
          omega⟩
        rw [← hW8, ← hbt]
        clear hW8 hbt hb68 hb7 hck hmx HR6 HM6 HB6 HX6
        have hr8 := HR8.out.cells
        have ht8 := HT8.out.cells
        rcases Nat.eq_zero_or_pos n4 with h4 | h4
        · subst n4
          go_wp2
          go_ret
          exact ⟨rfl, HB8.out⟩
        · have hn4b : ((n4 : Int) == 0) = false := by rw [beq_eq_false_iff_ne]; omega
          obtain ⟨q, hq⟩ : ∃ q, q = z.toNat % n4 := ⟨_, rfl⟩
          have hqn : q < n4 := by rw [hq]; exact Nat.mod_lt _ h4
          have hmod4 : z % (n4 : Int) = (q : Int) := by
            rw [hq]
            have e : z = (z.toNat : Int) := by omega
            conv => lhs; rw [e]
            rfl
          have htmod4 : z.tmod (n4 : Int) = (q : Int) := by
            rw [← hmod4]
            exact Int.tmod_eq_emod_of_nonneg hz0
          have hqw : IntKind.i64.wrap (q : Int) = (q : Int) := by rw [IntKind.wrap_i64]; omega
          have hqi : (q : Int) < (n4 : Int) := by omega
          have hq0 : (0 : Int) ≤ (q : Int) := by omega
          have hn4ne : (n4 : Int) ≠ 0 := by omega
          have hn4z : ¬ n4 = 0 := by omega
          have hmf := HM8.out.free
          have hmc := HM8.out.cells
          have HQ := Aside0.mk hq
          clear hq hmod4
          go_upto_region 14 with (fail)
          obtain ⟨W9, hW9⟩ : ∃ W9, W9 = ((((W8.setCell ⟨bm, 0, none⟩ (.slice NA n1 nc)).setCell ⟨bm, 1, none⟩ (.slice EA n2 ec)).setCell ⟨bm, 2, none⟩ (.slice (some ad) n3 vc)).setCell ⟨bm, 3, none⟩ (.slice UA n4 uc)) := ⟨_, rfl⟩
          rw [← hW9]
          have hk9 : ∀ k, k ≠ bm → W9.heap[k]? = W8.heap[k]? := fun k h => by
            rw [hW9, heap_setCell_other _ ⟨bm, 3, none⟩ _ _ h, heap_setCell_other _ ⟨bm, 2, none⟩ _ _ h, heap_setCell_other _ ⟨bm, 1, none⟩ _ _ h, heap_setCell_other _ ⟨bm, 0, none⟩ _ _ h]
          have HM9 : Aside0 (GBox W9 bm #[.slice NA n1 nc, .slice EA n2 ec, .slice (some ad) n3 vc, .slice UA n4 uc]) := ⟨by
            rw [hW9]
            exact (((HM8.out.put 0 (.slice NA n1 nc)).put 1 (.slice EA n2 ec)).put 2 (.slice (some ad) n3 vc)).put 3 (.slice UA n4 uc)⟩
          have hz9 : W9.heap.size = W8.heap.size := by rw [hW9]; simp
          have HB9 : Aside0 (Below w.heap.size w W9) := ⟨by
            have hx : w.heap.size ≤ bm := by have := HX8.out; omega
            rw [hW9]
            exact below_set (below_set (below_set (below_set HB8.out (p := ⟨bm, 0, none⟩) hx _) (p := ⟨bm, 1, none⟩) hx _) (p := ⟨bm, 2, none⟩) hx _) (p := ⟨bm, 3, none⟩) hx _⟩
          have HR9 : Aside0 (GBox W9 br #[.slice NA n1 nc, .slice EA n2 ec, .slice (some ad) n3 vc, .slice UA n4 uc]) := ⟨(hk9 br (by have := HX8.out; omega)).trans HR8.out⟩
          have HT9 : Aside0 (PBox W9 bt #[.int .i64 3, .int .i64 (n3 : Int)]) := ⟨(hk9 bt (by have := HX8.out; omega)).trans HT8.out⟩
          have HX9 : Aside0 (bm < bt ∧ bt < W9.heap.size ∧ w.heap.size ≤ bm ∧ bm < W9.heap.size ∧ br < bm) := ⟨by
            have h1 := HX8.out
            omega⟩
          have HREADE : Aside0 (∀ X, Below W9.heap.size W9 X → ReadsE X UA es) := ⟨fun X h => HG.out.es.below (below_then HB9.out h)⟩
          clear hr8 ht8 hmf hmc hW9 hk9 hz9 HR8 HM8 HT8 HB8 HX8
          have hr9 : (W9.alloc (.cells #[] 31)).cell? ⟨br, 3, none⟩ = some (.slice UA n4 uc) := (World.cell?_of_block (a := ⟨br, 3, none⟩) (heap_alloc_old W9 _ (by have := HX9.out; show br < W9.heap.size; omega))).trans (HR9.out.cells 3)
          have hba9 := below_more (Below.refl W9.heap.size W9) (.cells #[] 31)
          have hra9 := HREADE.out _ hba9
          have hoe9 := own_empty_E W9 W9.heap.size (Nat.le_refl _)
          have hsz9 := hba9.size
          go_upto_region 15 with (at_builtin; go_loud (refine app_all_EL rfl (.tmp 75) (.tmp 77) rfl W9.heap.size _ rfl hoe9 UA es n4 uc HN.out.2 rfl HUA.out hra9 hN.2.2.2 hsz9 ?_); intro v2 Z hT0 hb0; obtain ⟨gq, cq, hv2, hgq⟩ := own_some_E hT0 h4; subst hv2; have HBE2 := hba9.trans hb0; have hfz := GBox.free (W := Z) (b := bm) ((HBE2.block _ (by have := HX9.out; omega)).trans HM9.out) 3; have hcl := GBox.cells (W := Z) (b := bm) ((HBE2.block _ (by have := HX9.out; omega)).trans HM9.out) 3)
          obtain ⟨wc, hwc⟩ : ∃ wc, wc = Z.setCell ⟨bm, 3, none⟩ (.slice (some ⟨gq, 0, none⟩) n4 cq) := ⟨_, rfl⟩
          rw [← hwc]
          have hbc : Below w.heap.size w wc := by
            have hdx := HX9.out
            rw [hwc]
            exact below_set (below_then HB9.out HBE2) (p := ⟨bm, 3, none⟩) (by show w.heap.size ≤ bm; omega) _
          have hsc : W9.heap.size ≤ wc.heap.size := by have := HBE2.size; rw [hwc]; simp; omega
          have hkc : ∀ k, k < W9.heap.size → k ≠ bm → wc.heap[k]? = W9.heap[k]? := fun k h1 h2 => by
            rw [hwc]
            exact (heap_setCell_other _ _ _ _ h2).trans (HBE2.block k h1)
          have hmc : GBox wc bm #[.slice NA n1 nc, .slice EA n2 ec, .slice (some ad) n3 vc, .slice (some ⟨gq, 0, none⟩) n4 cq] := by
            have hdx := HX9.out
            rw [hwc]
            exact GBox.put (W := Z) (b := bm) ((HBE2.block _ (by omega)).trans HM9.out) 3 _
          have hoc : wc.ownsRow W9.heap.size 31 5 (.slice (some ⟨gq, 0, none⟩) n4 cq) n4 (es.flatMap cellsED) := by
            rw [hwc]
            exact own_set hT0 ⟨bm, 3, none⟩ (.slice (some ⟨gq, 0, none⟩) n4 cq) (by have := HX9.out; show bm < W9.heap.size; omega)
          clear hr9 hba9 hra9 hoe9 hsz9 hfz hcl hb0 hT0 HBE2 hwc
          have HB10 := Aside0.mk hbc
          have HO10 := Aside0.mk hoc
          have HT10 : Aside0 (PBox wc bt #[.int .i64 3, .int .i64 (n3 : Int)]) := ⟨(hkc bt (by have := HX9.out; omega) (by have := HX9.out; omega)).trans HT9.out⟩
          have HX10 : Aside0 (w.heap.size ≤ bt ∧ bt < wc.heap.size ∧ bt < gq ∧ bm < gq ∧ w.heap.size ≤ gq) := ⟨by
            have h1 := HX9.out
            have h2 := HB9.out.size
            omega⟩
          have HM10 := Aside0.mk hmc
          have hmx := hmc.cells
          have hcl : wc.cell? ⟨gq, q * 5 + 3, none⟩ = some (.int .i64 (es.getD q ED.zero).t) := by
            have h := hoc.cells (g := gq) rfl (q * 5 + 3) _ (flat_at cellsED 5 ED.zero cellsED_len es q 3 (by have := HN.out; omega) (by decide))
            rw [add_zero_] at h
            exact h
          have hfz := hoc.frozenAt (q * 5 + 3)
          clear hbc hsc hkc hoc hmc hgq HR9 HT9 HM9 HX9 HREADE
          go_upto_region 16 with (fail)
          obtain ⟨Wd, hWd⟩ : ∃ Wd, Wd = wc.setCell ⟨gq, q * 5 + 3, none⟩ (.int .i64 (-1)) := ⟨_, rfl⟩
          rw [← hWd]
          obtain ⟨y, hy⟩ : ∃ y : ED, y = { es.getD q ED.zero with t := -1 } := ⟨_, rfl⟩
          have hql : q < es.length := by have := HN.out; omega
          have hge : goodED w (es.getD q ED.zero) := ReadsG.all_E HG.out.es _ (getD_in es ED.zero q hql)
          have hgy : goodED w y := by
            rw [hy]
            exact ⟨hge.1, ⟨hge.2.1.1, (by decide : (Lit.int .i64 (-1)).wf = true)⟩, hge.2.2⟩
          have hbd : Below w.heap.size w Wd := by
            rw [hWd]
            exact below_set HB10.out (p := ⟨gq, q * 5 + 3, none⟩) (by have := HX10.out; show w.heap.size ≤ gq; omega) _
          have hod : Wd.ownsRow W9.heap.size 31 5 (.slice (some ⟨gq, 0, none⟩) (es.set q y).length cq) (es.set q y).length ((es.set q y).flatMap cellsED) := by
            rw [hWd, List.length_set, ← HN.out.2, flat_set cellsED 5 cellsED_len 3 (.int .i64 (-1)) y es q (by decide) (fun x hx => by
              have e : es.getD q ED.zero = x := by rw [List.getD_eq_getElem?_getD, hx]; rfl
              rw [hy, e]
              rfl)]
            exact (HO10.out.stored (q * 5 + 3) (.int .i64 (-1))).1
          obtain ⟨A9, c9, he9, hr9⟩ := readsE_own hod (by rw [List.length_set]; exact HG.out.es.len) (fun x hx => by
            rcases List.mem_or_eq_of_mem_set hx with h | h
            · exact (ReadsG.all_E HG.out.es x h).below hbd
            · rw [h]
              exact hgy.below hbd)
          cases he9
          have hck := HCKA.out ns (es.set q y) (some ad) (some ⟨gq, 0, none⟩) vc cq Wd hbd (HG.out.ns.below hbd) hr9
          have hpe : checkR nts ets ns (es.set q y) = (4, q, 46) := by
            rw [hy]
            exact HPE.out q (by first | rfl | trivial) hqn
          rw [hpe, List.length_set, ← HN.out.1, ← HN.out.2] at hck
          have hmd : GBox Wd bm #[.slice NA n1 nc, .slice EA n2 ec, .slice (some ad) n3 vc, .slice (some ⟨gq, 0, none⟩) n4 cq] := by
            rw [hWd]
            exact (heap_setCell_other _ ⟨gq, q * 5 + 3, none⟩ _ _ (by have := HX10.out; show bm ≠ gq; omega)).trans HM10.out
          have htd : PBox Wd bt #[.int .i64 3, .int .i64 (n3 : Int)] := by
            rw [hWd]
            exact (heap_setCell_other _ ⟨gq, q * 5 + 3, none⟩ _ _ (by have := HX10.out; show bt ≠ gq; omega)).trans HT10.out
          have HTd := Aside0.mk htd
          have HBd := Aside0.mk hbd
          have hmx := hmd.cells
          have hXd : Aside0 (bt < Wd.heap.size ∧ w.heap.size ≤ bt) := ⟨by have := HX10.out; rw [hWd]; simp; omega⟩
          clear hy hql hge hgy hbd hod hr9 hpe hmd htd hcl hfz HM10 HT10 HO10 HB10 hWd
          go_upto_region 17 with (go_at_call 7; go_loud (refine hck.mono ?_); (first | (intro e We he hbe; subst he) | rintro e We ⟨rfl, hbe⟩); have HTe : PBox We bt #[.int .i64 3, .int .i64 (n3 : Int)] := (hbe.block bt hXd.out.1).trans HTd.out; have htf := HTe.free; have htc := HTe.cells)
          have HTe : PBox We bt #[.int .i64 3, .int .i64 (n3 : Int)] := (hbe.block bt hXd.out.1).trans HTd.out
          obtain ⟨Wf, hWf⟩ : ∃ Wf, Wf = ((We.setCell ⟨bt, 0, none⟩ (.int .i64 4)).setCell ⟨bt, 1, none⟩ (.int .i64 (q : Int))) := ⟨_, rfl⟩
          rw [← hWf]
          have HTf : PBox Wf bt #[.int .i64 4, .int .i64 (q : Int)] := by
            rw [hWf]
            exact (HTe.put 0 (.int .i64 4)).put 1 (.int .i64 (q : Int))
          have HBf : Aside0 (Below w.heap.size w Wf) := ⟨by
            have hx := hXd.out.2
            rw [hWf]
            exact below_set (below_set (below_then HBd.out hbe) (p := ⟨bt, 0, none⟩) hx _) (p := ⟨bt, 1, none⟩) hx _⟩
          have htg := HTf.cells
          clear hWf HTe HTf hbe hck
          go_wp2
          go_ret
          exact ⟨rfl, HBf.out⟩

  · have hc3b : (c3 == 0) = false := by simp [hc3]
    go_wp2
    go_ret
    exact ⟨rfl, HB4.out⟩
end Go.Proofs.Ytffifhinhemkdaa
