/- The document's Meet: what rising lists have in common. -/
import Derived.Test.YtgaiedcjcoebeaaCsOwn
set_option linter.unusedVariables false
set_option linter.unusedSimpArgs false
namespace Go.Proofs.Ytgaiedcjcoebeaa
open Go.RowKit

/-- Whether a number stands in each list but the first. -/
def restB (ls : List (List Int)) (v : Int) : Bool := (ls.drop 1).all fun l => l.contains v
/-- Whether it stands in the lists from the second to one before the k-th. -/
def partB (ls : List (List Int)) (k : Nat) (v : Int) : Bool := ((ls.drop 1).take (k - 1)).all fun l => l.contains v
theorem common_rest (ls : List (List Int)) (hne : ls ≠ []) : commonL ls = (ls.getD 0 []).filter (restB ls) := by
  match ls, hne with
  | x :: r, _ => rfl
theorem part_next (ls : List (List Int)) (k : Nat) (v : Int) (h1 : 1 ≤ k) (hk : k < ls.length) : partB ls (k + 1) v = (partB ls k v && (ls.getD k []).contains v) := by
  unfold partB
  have e : k + 1 - 1 = k - 1 + 1 := by omega
  have hlt : k - 1 < (ls.drop 1).length := by rw [List.length_drop]; omega
  rw [e, List.take_add_one, List.getElem?_eq_getElem hlt, Option.toList_some, List.all_append, List.getElem_drop]
  congr 1
  have hg : ls.getD k [] = ls[k] := by rw [List.getD_eq_getElem?_getD, List.getElem?_eq_getElem hk]; rfl
  have e2 : ls[1 + (k - 1)]'(by omega) = ls[k] := by congr 1; omega
  rw [hg, e2]
  simp
theorem part_all (ls : List (List Int)) (v : Int) : partB ls ls.length v = restB ls v := by
  unfold partB restB
  rw [List.take_of_length_le (by rw [List.length_drop]; omega)]
theorem part_false (ls : List (List Int)) (k : Nat) (v : Int) (h : partB ls k v = false) : restB ls v = false := by
  unfold partB at h
  unfold restB
  rw [Bool.eq_false_iff] at h ⊢
  intro h2
  refine h ?_
  rw [List.all_eq_true] at h2 ⊢
  exact fun x hx => h2 x (List.mem_of_mem_take hx)
theorem filter_next (l : List Int) (q : Int → Bool) (k : Nat) (hk : k < l.length) : (l.take (k + 1)).filter q = (l.take k).filter q ++ if q (l.getD k 0) then [l.getD k 0] else [] := by
  have hg : l.getD k 0 = l[k] := by rw [List.getD_eq_getElem?_getD, List.getElem?_eq_getElem hk]; rfl
  rw [List.take_add_one, List.getElem?_eq_getElem hk, Option.toList_some, List.filter_append, List.filter_cons, List.filter_nil, hg]
set_option maxRecDepth 100000 in
set_option maxHeartbeats 12800000 in
theorem rmeet_any (A : Option Addr) (rs : List R3) (c : Nat) (w : World) (hr : ReadsL w A rs) (hsm : Small rs) :
    Calls Try.prog 8 #[.slice A rs.length c] w fun e w' => ∃ v, e = .returned (.tuple #[v, .int .i64 (meetE (lsOf rs))]) ∧ w'.ownsRow w.heap.size 3 1 v (meetL (lsOf rs)).length (numCells (meetL (lsOf rs))) ∧ Below w.heap.size w w' := by
  obtain ⟨m, hm⟩ : ∃ m, m = rs.length := ⟨_, rfl⟩
  obtain ⟨ls, hls⟩ : ∃ ls, ls = lsOf rs := ⟨_, rfl⟩
  rw [← hm, ← hls]
  have hlm : ls.length = m := by rw [hls, hm]; simp [lsOf]
  have hm63 : (m : Int) ≤ 5864062014805 := by have := hsm.rows; omega
  have HR := Aside0.mk hr
  have HS := Aside0.mk hsm
  have HM := Aside0.mk hm
  have HL := Aside0.mk hls
  have HLM := Aside0.mk hlm
  clear hr hsm hm hls hlm
  by_cases hm0 : m = 0
  · subst hm0
    have hl0 : ls = [] := List.length_eq_zero_iff.1 HLM.out
    subst hl0
    go_enter Try.func8, Try.ntmps8
    go_wp2
    first
      | go_ret2
      | go_ret
    exact ⟨_, rfl, World.ownsRow_nil _ _ _ _, Below.refl _ _⟩
  have hm1 : (0 : Int) < (m : Int) := by omega
  have hmb : ((m : Int) == 0) = false := by rw [beq_eq_false_iff_ne]; omega
  go_enter Try.func8, Try.ntmps8
  go_wp2
  go_loopg [4] (m + 1) (fun gg s4 wr => ∃ j : Nat, j ≤ m ∧ m < gg + j ∧ s4 = .int .i64 j ∧ Below w.heap.size w wr ∧ Aside0 (∀ i, i < j → Up (ls.getD i [])))
  case atStart => exact ⟨0, by omega, by omega, rfl, Below.refl _ _, ⟨fun i hi => absurd hi (by omega)⟩⟩
  case round =>
    obtain ⟨j, hj, hg, rfl, HB, HJ⟩ := hrel
    have hj0 : (0 : Int) ≤ (j : Int) := by omega
    by_cases hlt : j < m
    · have hlti : (j : Int) < (m : Int) := by omega
      have hjr : j < rs.length := by have := HM.out; omega
      obtain ⟨ad0, hA0, -, hc0⟩ := HR.out.row j hjr
      have hri := HR.out.each _ (getD_mem rs j hjr)
      have hcap := HR.out.cap _ (getD_mem rs j hjr)
      have hnum := HS.out.nums _ (getD_mem rs j hjr)
      have hlj : ls.getD j [] = (rs.getD j r30).l := by rw [HL.out]; exact lsOf_getD rs j hjr
      subst hA0
      generalize rs.getD j r30 = r at hc0 hri hcap hnum hlj
      obtain ⟨Ar, l, cr⟩ := r
      simp only [R3.val] at hc0 hri hcap hnum hlj
      obtain ⟨n, hn⟩ : ∃ n, n = l.length := ⟨_, rfl⟩
      rw [← hn] at hc0 hcap hnum
      have hni : (n : Int) ≤ 17592186044416 := by omega
      have HN := Aside0.mk hn
      have HRI := Aside0.mk hri
      have HLJ := Aside0.mk hlj
      have HC0 := Aside0.mk hc0
      clear hn hri hlj hc0
      obtain ⟨G, hG⟩ : ∃ G, G = gk := ⟨_, rfl⟩
      have HG := Aside0.mk hG
      clear hG
      go_wp2
      go_loopg [5] (n + 2) (fun gg s5 wx => ∃ k : Nat, 1 ≤ k ∧ k ≤ n + 1 ∧ n + 1 < gg + k ∧ s5 = .int .i64 k ∧ Below w.heap.size w wx ∧ Aside0 (∀ t, t + 1 < k → t + 1 < n → l.getD t 0 < l.getD (t + 1) 0))
      case atStart => exact ⟨1, by omega, by omega, by omega, rfl, HB, ⟨fun t ht => absurd ht (by omega)⟩⟩
      case round =>
        obtain ⟨k, hk1', hk, hgi, rfl, HBx, HI⟩ := hrel
        have hk0 : (0 : Int) ≤ (k : Int) := by omega
        have hrx := (HBx.cell (World.block_lt_of_cell? w _ HC0.out)).trans HC0.out
        by_cases hku : k < n
        · have hkui : (k : Int) < (n : Int) := by omega
          obtain ⟨k1, hk1e⟩ : ∃ k1, k1 = k - 1 := ⟨_, rfl⟩
          have hk1w : (k : Int) - 1 = (k1 : Int) := by omega
          have hk10 : (0 : Int) ≤ (k1 : Int) := by omega
          have hk1ww : IntKind.i64.wrap (k1 : Int) = (k1 : Int) := by rw [IntKind.wrap_i64]; omega
          have hk1n : (k1 : Int) < (n : Int) := by omega
          have hln : k < l.length := by have := HN.out; omega
          obtain ⟨ad, hA, hcs⟩ := (HRI.out.below HBx).2 (by omega)
          have hx := hcs k1 (by omega)
          have hy := hcs k hln
          have HKE := Aside0.mk hk1e
          have HK1 := Aside0.mk hk1'
          subst hA
          clear hcs hln hk1e hk1'
          obtain ⟨x, hxe⟩ : ∃ x, x = l.getD k1 0 := ⟨_, rfl⟩
          obtain ⟨y, hye⟩ : ∃ y, y = l.getD k 0 := ⟨_, rfl⟩
          rw [← hxe] at hx
          rw [← hye] at hy
          have HXE := Aside0.mk hxe
          have HYE := Aside0.mk hye
          clear hxe hye
          by_cases hlt2 : x < y
          · have hxy : decide (y ≤ x) = false := by simp; omega
            go_upto_region 9 with (fail)
            refine wp_region_held_drew (S := (fun WW => WW.cell? (ad0.add j) = some (.slice (some ad) n cr) ∧ WW.cell? (ad.add k1) = some (.int .i64 x) ∧ WW.cell? (ad.add k) = some (.int .i64 y))) (by kernel_rfl) ?_ (fun hHeld => ?_)
            · exact ⟨hrx, hx, hy⟩
            refine take_in (i := 0) (v := ?v0f) rfl (by kernel_rfl) (by kernel_rfl) (by kernel_rfl) (fun _ _ _ h => h) (by rfl) ?hy0f (by assumption) ?_
            case hy0f => intro WW hSw; (try dsimp only at hSw); go_simp; try with_reducible rfl
            try simp only [Act.put, List.setIfInBounds_toArray, List.set_cons_zero, List.set_cons_succ]
            refine take_in (i := 1) (v := ?v1f) rfl (by kernel_rfl) (by kernel_rfl) (by kernel_rfl) (fun _ _ _ h => h) (by rfl) ?hy1f (by assumption) ?_
            case hy1f => intro WW hSw; (try dsimp only at hSw); go_simp; try with_reducible rfl
            try simp only [Act.put, List.setIfInBounds_toArray, List.set_cons_zero, List.set_cons_succ]
            refine take_in (i := 2) (v := ?v2f) rfl (by kernel_rfl) (by kernel_rfl) (by kernel_rfl) (fun _ _ _ h => h) (by rfl) ?hy2f (by assumption) ?_
            case hy2f => intro WW hSw; (try dsimp only at hSw); go_simp; try with_reducible rfl
            try simp only [Act.put, List.setIfInBounds_toArray, List.set_cons_zero, List.set_cons_succ]
            refine take_in (i := 3) (v := ?v3f) rfl (by kernel_rfl) (by kernel_rfl) (by kernel_rfl) (fun _ _ _ h => h) (by rfl) ?hy3f (by assumption) ?_
            case hy3f => intro WW hSw; (try dsimp only at hSw); go_simp; try with_reducible rfl
            try simp only [Act.put, List.setIfInBounds_toArray, List.set_cons_zero, List.set_cons_succ]
            refine take_in (i := 4) (v := ?v4f) rfl (by kernel_rfl) (by kernel_rfl) (by kernel_rfl) (fun _ _ _ h => h) (by rfl) ?hy4f (by assumption) ?_
            case hy4f => intro WW hSw; (try dsimp only at hSw); go_simp; try with_reducible rfl
            try simp only [Act.put, List.setIfInBounds_toArray, List.set_cons_zero, List.set_cons_succ]
            refine take_in (i := 5) (v := .int .i64 (k1 : Int)) rfl (by kernel_rfl) (by kernel_rfl) (by kernel_rfl) (fun _ _ _ h => h) (by rfl) ?hy5f (by assumption) ?_
            case hy5f => intro WW hSw; (try dsimp only at hSw); have hh := hk1w; have hh2 := hk1ww; go_simp; try with_reducible rfl
            try simp only [Act.put, List.setIfInBounds_toArray, List.set_cons_zero, List.set_cons_succ]
            refine take_in (i := 6) (v := .pointer (some (ad.add k1))) rfl (by kernel_rfl) (by kernel_rfl) (by kernel_rfl) (fun _ _ _ h => h) (by rfl) ?hy6f (by assumption) ?_
            case hy6f => intro WW hSw; (try dsimp only at hSw); go_simp; try with_reducible rfl
            try simp only [Act.put, List.setIfInBounds_toArray, List.set_cons_zero, List.set_cons_succ]
            refine take_in (i := 7) (v := ?v7f) rfl (by kernel_rfl) (by kernel_rfl) (by kernel_rfl) (fun _ _ _ h => h) (by rfl) ?hy7f (by assumption) ?_
            case hy7f => intro WW hSw; (try dsimp only at hSw); go_simp; try with_reducible rfl
            try simp only [Act.put, List.setIfInBounds_toArray, List.set_cons_zero, List.set_cons_succ]
            refine take_in (i := 8) (v := ?v8f) rfl (by kernel_rfl) (by kernel_rfl) (by kernel_rfl) (fun _ _ _ h => h) (by rfl) ?hy8f (by assumption) ?_
            case hy8f => intro WW hSw; (try dsimp only at hSw); go_simp; try with_reducible rfl
            try simp only [Act.put, List.setIfInBounds_toArray, List.set_cons_zero, List.set_cons_succ]
            refine take_in (i := 9) (v := ?v9f) rfl (by kernel_rfl) (by kernel_rfl) (by kernel_rfl) (fun _ _ _ h => h) (by rfl) ?hy9f (by assumption) ?_
            case hy9f => intro WW hSw; (try dsimp only at hSw); go_simp; try with_reducible rfl
            try simp only [Act.put, List.setIfInBounds_toArray, List.set_cons_zero, List.set_cons_succ]
            refine take_in (i := 10) (v := ?v10f) rfl (by kernel_rfl) (by kernel_rfl) (by kernel_rfl) (fun _ _ _ h => h) (by rfl) ?hy10f (by assumption) ?_
            case hy10f => intro WW hSw; (try dsimp only at hSw); go_simp; try with_reducible rfl
            try simp only [Act.put, List.setIfInBounds_toArray, List.set_cons_zero, List.set_cons_succ]
            refine take_in (i := 11) (v := ?v11f) rfl (by kernel_rfl) (by kernel_rfl) (by kernel_rfl) (fun _ _ _ h => h) (by rfl) ?hy11f (by assumption) ?_
            case hy11f => intro WW hSw; (try dsimp only at hSw); go_simp; try with_reducible rfl
            try simp only [Act.put, List.setIfInBounds_toArray, List.set_cons_zero, List.set_cons_succ]
            refine take_in (i := 12) (v := ?v12f) rfl (by kernel_rfl) (by kernel_rfl) (by kernel_rfl) (fun _ _ _ h => h) (by rfl) ?hy12f (by assumption) ?_
            case hy12f => intro WW hSw; (try dsimp only at hSw); go_simp; try with_reducible rfl
            try simp only [Act.put, List.setIfInBounds_toArray, List.set_cons_zero, List.set_cons_succ]
            refine take_in (i := 13) (v := ?v13f) rfl (by kernel_rfl) (by kernel_rfl) (by kernel_rfl) (fun _ _ _ h => h) (by rfl) ?hy13f (by assumption) ?_
            case hy13f => intro WW hSw; (try dsimp only at hSw); go_simp; try with_reducible rfl
            try simp only [Act.put, List.setIfInBounds_toArray, List.set_cons_zero, List.set_cons_succ]
            refine take_in (i := 14) (v := ?v14f) rfl (by kernel_rfl) (by kernel_rfl) (by kernel_rfl) (fun _ _ _ h => h) (by rfl) ?hy14f (by assumption) ?_
            case hy14f => intro WW hSw; (try dsimp only at hSw); go_simp; try with_reducible rfl
            try simp only [Act.put, List.setIfInBounds_toArray, List.set_cons_zero, List.set_cons_succ]
            refine take_in (i := 15) (v := .bool false) rfl (by kernel_rfl) (by kernel_rfl) (by kernel_rfl) (fun _ _ _ h => h) (by rfl) ?hy15f (by assumption) ?_
            case hy15f => intro WW hSw; (try dsimp only at hSw); have hh := hxy; go_simp; try with_reducible rfl
            try simp only [Act.put, List.setIfInBounds_toArray, List.set_cons_zero, List.set_cons_succ]
            refine wpAnyH_done (by kernel_rfl) ?_ _
            go_wp2
            go_roundg (gk - 1)
            case measure => omega
            case rel => exact ⟨k + 1, by omega, by omega, by omega, by go_num, ⟨HBx.os, HBx.tape, HBx.output, HBx.size, HBx.block⟩, ⟨fun t ht htn => by
              have h2 := HKE.out
              have h3 := HK1.out
              rcases Nat.lt_or_ge (t + 1) k with h | h
              · exact HI.out t h htn
              · obtain rfl : t = k1 := by omega
                rw [show t + 1 = k by omega, ← HXE.out, ← HYE.out]; exact hlt2⟩⟩
          · have hxy : decide (y ≤ x) = true := by simp; omega
            go_upto_region 9 with (fail)
            refine wp_region_held_drew (S := (fun WW => WW.cell? (ad0.add j) = some (.slice (some ad) n cr) ∧ WW.cell? (ad.add k1) = some (.int .i64 x) ∧ WW.cell? (ad.add k) = some (.int .i64 y))) (by kernel_rfl) ?_ (fun hHeld => ?_)
            · exact ⟨hrx, hx, hy⟩
            refine take_in (i := 0) (v := ?v0t) rfl (by kernel_rfl) (by kernel_rfl) (by kernel_rfl) (fun _ _ _ h => h) (by rfl) ?hy0t (by assumption) ?_
            case hy0t => intro WW hSw; (try dsimp only at hSw); go_simp; try with_reducible rfl
            try simp only [Act.put, List.setIfInBounds_toArray, List.set_cons_zero, List.set_cons_succ]
            refine take_in (i := 1) (v := ?v1t) rfl (by kernel_rfl) (by kernel_rfl) (by kernel_rfl) (fun _ _ _ h => h) (by rfl) ?hy1t (by assumption) ?_
            case hy1t => intro WW hSw; (try dsimp only at hSw); go_simp; try with_reducible rfl
            try simp only [Act.put, List.setIfInBounds_toArray, List.set_cons_zero, List.set_cons_succ]
            refine take_in (i := 2) (v := ?v2t) rfl (by kernel_rfl) (by kernel_rfl) (by kernel_rfl) (fun _ _ _ h => h) (by rfl) ?hy2t (by assumption) ?_
            case hy2t => intro WW hSw; (try dsimp only at hSw); go_simp; try with_reducible rfl
            try simp only [Act.put, List.setIfInBounds_toArray, List.set_cons_zero, List.set_cons_succ]
            refine take_in (i := 3) (v := ?v3t) rfl (by kernel_rfl) (by kernel_rfl) (by kernel_rfl) (fun _ _ _ h => h) (by rfl) ?hy3t (by assumption) ?_
            case hy3t => intro WW hSw; (try dsimp only at hSw); go_simp; try with_reducible rfl
            try simp only [Act.put, List.setIfInBounds_toArray, List.set_cons_zero, List.set_cons_succ]
            refine take_in (i := 4) (v := ?v4t) rfl (by kernel_rfl) (by kernel_rfl) (by kernel_rfl) (fun _ _ _ h => h) (by rfl) ?hy4t (by assumption) ?_
            case hy4t => intro WW hSw; (try dsimp only at hSw); go_simp; try with_reducible rfl
            try simp only [Act.put, List.setIfInBounds_toArray, List.set_cons_zero, List.set_cons_succ]
            refine take_in (i := 5) (v := .int .i64 (k1 : Int)) rfl (by kernel_rfl) (by kernel_rfl) (by kernel_rfl) (fun _ _ _ h => h) (by rfl) ?hy5t (by assumption) ?_
            case hy5t => intro WW hSw; (try dsimp only at hSw); have hh := hk1w; have hh2 := hk1ww; go_simp; try with_reducible rfl
            try simp only [Act.put, List.setIfInBounds_toArray, List.set_cons_zero, List.set_cons_succ]
            refine take_in (i := 6) (v := .pointer (some (ad.add k1))) rfl (by kernel_rfl) (by kernel_rfl) (by kernel_rfl) (fun _ _ _ h => h) (by rfl) ?hy6t (by assumption) ?_
            case hy6t => intro WW hSw; (try dsimp only at hSw); go_simp; try with_reducible rfl
            try simp only [Act.put, List.setIfInBounds_toArray, List.set_cons_zero, List.set_cons_succ]
            refine take_in (i := 7) (v := ?v7t) rfl (by kernel_rfl) (by kernel_rfl) (by kernel_rfl) (fun _ _ _ h => h) (by rfl) ?hy7t (by assumption) ?_
            case hy7t => intro WW hSw; (try dsimp only at hSw); go_simp; try with_reducible rfl
            try simp only [Act.put, List.setIfInBounds_toArray, List.set_cons_zero, List.set_cons_succ]
            refine take_in (i := 8) (v := ?v8t) rfl (by kernel_rfl) (by kernel_rfl) (by kernel_rfl) (fun _ _ _ h => h) (by rfl) ?hy8t (by assumption) ?_
            case hy8t => intro WW hSw; (try dsimp only at hSw); go_simp; try with_reducible rfl
            try simp only [Act.put, List.setIfInBounds_toArray, List.set_cons_zero, List.set_cons_succ]
            refine take_in (i := 9) (v := ?v9t) rfl (by kernel_rfl) (by kernel_rfl) (by kernel_rfl) (fun _ _ _ h => h) (by rfl) ?hy9t (by assumption) ?_
            case hy9t => intro WW hSw; (try dsimp only at hSw); go_simp; try with_reducible rfl
            try simp only [Act.put, List.setIfInBounds_toArray, List.set_cons_zero, List.set_cons_succ]
            refine take_in (i := 10) (v := ?v10t) rfl (by kernel_rfl) (by kernel_rfl) (by kernel_rfl) (fun _ _ _ h => h) (by rfl) ?hy10t (by assumption) ?_
            case hy10t => intro WW hSw; (try dsimp only at hSw); go_simp; try with_reducible rfl
            try simp only [Act.put, List.setIfInBounds_toArray, List.set_cons_zero, List.set_cons_succ]
            refine take_in (i := 11) (v := ?v11t) rfl (by kernel_rfl) (by kernel_rfl) (by kernel_rfl) (fun _ _ _ h => h) (by rfl) ?hy11t (by assumption) ?_
            case hy11t => intro WW hSw; (try dsimp only at hSw); go_simp; try with_reducible rfl
            try simp only [Act.put, List.setIfInBounds_toArray, List.set_cons_zero, List.set_cons_succ]
            refine take_in (i := 12) (v := ?v12t) rfl (by kernel_rfl) (by kernel_rfl) (by kernel_rfl) (fun _ _ _ h => h) (by rfl) ?hy12t (by assumption) ?_
            case hy12t => intro WW hSw; (try dsimp only at hSw); go_simp; try with_reducible rfl
            try simp only [Act.put, List.setIfInBounds_toArray, List.set_cons_zero, List.set_cons_succ]
            refine take_in (i := 13) (v := ?v13t) rfl (by kernel_rfl) (by kernel_rfl) (by kernel_rfl) (fun _ _ _ h => h) (by rfl) ?hy13t (by assumption) ?_
            case hy13t => intro WW hSw; (try dsimp only at hSw); go_simp; try with_reducible rfl
            try simp only [Act.put, List.setIfInBounds_toArray, List.set_cons_zero, List.set_cons_succ]
            refine take_in (i := 14) (v := ?v14t) rfl (by kernel_rfl) (by kernel_rfl) (by kernel_rfl) (fun _ _ _ h => h) (by rfl) ?hy14t (by assumption) ?_
            case hy14t => intro WW hSw; (try dsimp only at hSw); go_simp; try with_reducible rfl
            try simp only [Act.put, List.setIfInBounds_toArray, List.set_cons_zero, List.set_cons_succ]
            refine take_in (i := 15) (v := .bool true) rfl (by kernel_rfl) (by kernel_rfl) (by kernel_rfl) (fun _ _ _ h => h) (by rfl) ?hy15t (by assumption) ?_
            case hy15t => intro WW hSw; (try dsimp only at hSw); have hh := hxy; go_simp; try with_reducible rfl
            try simp only [Act.put, List.setIfInBounds_toArray, List.set_cons_zero, List.set_cons_succ]
            refine wpAnyH_done (by kernel_rfl) ?_ _
            go_wp2
            first
              | go_ret2
              | (simp only [Exit.jump]; go_ret2)
              | (simp only [Exit.inBlock, Exit.then, Exit.jump]; go_ret2)
              | go_ret
            have hnu : upAll ls = false := by
              rw [Bool.eq_false_iff]
              intro h
              have hu := (upAll_iff ls).1 h l (by
                rw [← HLJ.out, List.getD_eq_getElem?_getD, List.getElem?_eq_getElem (by rw [HLM.out]; exact hlt)]
                exact List.getElem_mem _)
              have h3 := (up_iff l).1 hu k1 (by have := HN.out; have := HKE.out; have := HK1.out; omega)
              rw [show k1 + 1 = k by have := HKE.out; have := HK1.out; omega, ← HXE.out, ← HYE.out] at h3
              omega
            have hne : ls ≠ [] := by intro e; have := HLM.out; rw [e] at this; simp at this; omega
            refine ⟨.slice none 0 0, ?_, ?_, ⟨HBx.os, HBx.tape, HBx.output, HBx.size, HBx.block⟩⟩
            · rw [meetE, if_neg hne, hnu]
              rfl
            · rw [meetL, hnu]
              exact World.ownsRow_nil _ _ _ _
        · have hku' : ¬ (k : Int) < (n : Int) := by omega
          have hul : Up l := (up_iff l).2 fun t ht => HI.out t (by have := HN.out; omega) (by have := HN.out; omega)
          have HUL := Aside0.mk hul
          clear hul HI
          go_wp2
          go_roundg (G - 1)
          case measure => have := HG.out; omega
          case rel => exact ⟨j + 1, by omega, by have := HG.out; omega, by go_num, HBx, ⟨fun t ht => by
            rcases Nat.lt_or_ge t j with h | h
            · exact HJ.out t h
            · obtain rfl : t = j := by omega
              rw [HLJ.out]; exact HUL.out⟩⟩
    · obtain rfl : j = m := by omega
      have hjj : ¬ (j : Int) < (j : Int) := by omega
      have hjn : 0 < j := by omega
      have hup : ∀ l ∈ ls, Up l := fun l hl => by
        obtain ⟨i, hi, rfl⟩ := List.getElem_of_mem hl
        have h := HJ.out i (by have := HLM.out; omega)
        rw [List.getD_eq_getElem?_getD, List.getElem?_eq_getElem hi] at h
        exact h
      have HUP := Aside0.mk ((upAll_iff ls).2 hup)
      have hne : ls ≠ [] := by intro e; have := HLM.out; rw [e] at this; simp at this; omega
      have hz : 0 < rs.length := by have := HM.out; omega
      obtain ⟨ad0, hA0, -, hc0⟩ := HR.out.row 0 hz
      have haz : ad0.add 0 = ad0 := by simp [Addr.add]
      rw [haz] at hc0
      have hri := HR.out.each _ (getD_mem rs 0 hz)
      have hnum := HS.out.nums _ (getD_mem rs 0 hz)
      have hlj : ls.getD 0 [] = (rs.getD 0 r30).l := by rw [HL.out]; exact lsOf_getD rs 0 hz
      have hcom := common_rest ls hne
      subst hA0
      generalize rs.getD 0 r30 = r at hc0 hri hnum hlj
      obtain ⟨Ar, l, cr⟩ := r
      simp only [R3.val] at hc0 hri hnum hlj
      rw [hlj] at hcom
      obtain ⟨u, hu⟩ : ∃ u, u = l.length := ⟨_, rfl⟩
      rw [← hu] at hc0 hnum
      have hui : (u : Int) ≤ 17592186044416 := by omega
      have HU := Aside0.mk hu
      have HRI := Aside0.mk hri
      have HC0 := Aside0.mk hc0
      have HCOM := Aside0.mk hcom
      have HNE := Aside0.mk hne
      have HUI := Aside0.mk hnum
      clear hu hri hlj hc0 hcom hne hup haz hnum
      have hrc := (HB.cell (World.block_lt_of_cell? w _ HC0.out)).trans HC0.out
      go_wp2
      go_loopg [6, 7] (u + 1) (fun gg s6 s7 wx => ∃ i : Nat, i ≤ u ∧ u < gg + i ∧ s7 = .int .i64 i ∧ wx.ownsRow w.heap.size 3 1 s6 ((l.take i).filter (restB ls)).length (numCells ((l.take i).filter (restB ls))) ∧ Below w.heap.size w wx)
      case atStart => exact ⟨0, by omega, by omega, rfl, World.ownsRow_nil _ _ _ _, HB⟩
      case round =>
        obtain ⟨i, hi, hgi, rfl, ho, HBx⟩ := hrel
        have hi0 : (0 : Int) ≤ (i : Int) := by omega
        have h0c := (HBx.cell (World.block_lt_of_cell? w _ HC0.out)).trans HC0.out
        clear hrc
        by_cases hiu : i < u
        · have hiui : (i : Int) < (u : Int) := by omega
          have hil : i < l.length := by have := HU.out; omega
          obtain ⟨x, hxe⟩ : ∃ x, x = l.getD i 0 := ⟨_, rfl⟩
          have hfn := filter_next l (restB ls) i hil
          rw [← hxe] at hfn
          have hol : ((l.take i).filter (restB ls)).length < 17592186044416 := by
            have h1 := List.length_filter_le (restB ls) (l.take i)
            rw [List.length_take] at h1
            have := HUI.out
            have := HU.out
            omega
          have HOL := Aside0.mk hol
          generalize (l.take i).filter (restB ls) = out at ho hfn hol HOL
          have HFN := Aside0.mk hfn
          have HXE := Aside0.mk hxe
          have HGI := Aside0.mk hgi
          have HHI := Aside0.mk hi
          obtain ⟨G, hG⟩ : ∃ G, G = gk := ⟨_, rfl⟩
          have HG := Aside0.mk hG
          clear hG hfn hxe hgi hi hol
          go_wp2
          go_loopg [8, 9] (j + 2) (fun gg s8 s9 wy => ∃ (k : Nat) (b : Bool), 1 ≤ k ∧ k ≤ j ∧ j + 1 < gg + k ∧ s8 = .bool b ∧ s9 = .int .i64 k ∧ wy.ownsRow w.heap.size 3 1 u6 out.length (numCells out) ∧ Below w.heap.size w wy ∧ Aside0 (b = partB ls k x))
          case atStart => exact ⟨1, true, by omega, by omega, by omega, rfl, rfl, ho, HBx, ⟨by simp [partB]⟩⟩
          case round =>
            obtain ⟨k, b, hk1, hkj, hgk, rfl, rfl, hoy, HBy, HP⟩ := hrel
            have hk0 : (0 : Int) ≤ (k : Int) := by omega
            have ho2 := hoy
            clear ho h0c
            have h0c := (HBy.cell (World.block_lt_of_cell? w _ HC0.out)).trans HC0.out
            have ho := ho2
            clear ho2 hoy
            cases b
            · have hrb := part_false ls k x HP.out.symm
              have HRB := Aside0.mk hrb
              clear hrb
              by_cases hkm : k < j
              · have hkmi : (k : Int) < (j : Int) := by omega
                go_wp2
                go_roundg (G - 1)
                case measure => have := HG.out; have := HGI.out; omega
                case rel => exact ⟨i + 1, by omega, by have := HG.out; have := HGI.out; omega, by go_num, by rw [HFN.out, HRB.out]; simpa using ho, HBy⟩
              · have hkmi : ¬ (k : Int) < (j : Int) := by omega
                go_wp2
                go_roundg (G - 1)
                case measure => have := HG.out; have := HGI.out; omega
                case rel => exact ⟨i + 1, by omega, by have := HG.out; have := HGI.out; omega, by go_num, by rw [HFN.out, HRB.out]; simpa using ho, HBy⟩
            · obtain ⟨ad, hA, hcs⟩ := (HRI.out.below HBy).2 (by omega)
              have hx := hcs i hil
              rw [← HXE.out] at hx
              subst hA
              clear hcs
              by_cases hkm : k < j
              · have hkmi : (k : Int) < (j : Int) := by omega
                have hkr : k < rs.length := by have := HM.out; omega
                obtain ⟨adx, hAx, -, hck⟩ := HR.out.row k hkr
                obtain rfl : ad0 = adx := by simpa using hAx
                have hKc := (HBy.cell (World.block_lt_of_cell? w _ hck)).trans hck
                have hrk := HR.out.each _ (getD_mem rs k hkr)
                have hlk : ls.getD k [] = (rs.getD k r30).l := by rw [HL.out]; exact lsOf_getD rs k hkr
                have hpn := part_next ls k x hk1 (by have := HLM.out; omega)
                rw [← HP.out, hlk, Bool.true_and] at hpn
                generalize rs.getD k r30 = r at hKc hrk hpn
                obtain ⟨Ak, lk, ck⟩ := r
                simp only [R3.val] at hKc hrk hpn
                have hHas : ∀ W, Below w.heap.size w W → _ := fun W hW => has_any Ak lk ck x W (hrk.below hW)
                rw [← hpn] at hHas
                obtain ⟨nk, hnk⟩ : ∃ nk, nk = lk.length := ⟨_, rfl⟩
                rw [← hnk] at hKc hHas
                obtain ⟨b2, hb2⟩ : ∃ b2, b2 = partB ls (k + 1) x := ⟨_, rfl⟩
                rw [← hb2] at hHas
                have HB2 := Aside0.mk hb2
                clear hck hrk hlk hpn hnk hb2 hAx
                go_upto_region 19 with (fail)
                refine wp_region_held_drew (S := (fun WW => WW.cell? (ad0.add k) = some (.slice Ak nk ck) ∧ WW.cell? ad0 = some (.slice (some ad) u cr) ∧ WW.cell? (ad.add i) = some (.int .i64 x))) (by kernel_rfl) ?_ (fun hHeld => ?_)
                · first | exact ⟨hKc, h0c, hx⟩ | exact ⟨hK9, h09, hx9⟩
                refine take_in (i := 0) (v := ?v0h) rfl (by kernel_rfl) (by kernel_rfl) (by kernel_rfl) (fun _ _ _ h => h) (by rfl) ?hy0h (by assumption) ?_
                case hy0h => intro WW hSw; (try dsimp only at hSw); go_simp; try with_reducible rfl
                try simp only [Act.put, List.setIfInBounds_toArray, List.set_cons_zero, List.set_cons_succ]
                refine take_in (i := 1) (v := ?v1h) rfl (by kernel_rfl) (by kernel_rfl) (by kernel_rfl) (fun _ _ _ h => h) (by rfl) ?hy1h (by assumption) ?_
                case hy1h => intro WW hSw; (try dsimp only at hSw); go_simp; try with_reducible rfl
                try simp only [Act.put, List.setIfInBounds_toArray, List.set_cons_zero, List.set_cons_succ]
                refine take_in (i := 2) (v := ?v2h) rfl (by kernel_rfl) (by kernel_rfl) (by kernel_rfl) (fun _ _ _ h => h) (by rfl) ?hy2h (by assumption) ?_
                case hy2h => intro WW hSw; (try dsimp only at hSw); go_simp; try with_reducible rfl
                try simp only [Act.put, List.setIfInBounds_toArray, List.set_cons_zero, List.set_cons_succ]
                refine take_in (i := 3) (v := ?v3h) rfl (by kernel_rfl) (by kernel_rfl) (by kernel_rfl) (fun _ _ _ h => h) (by rfl) ?hy3h (by assumption) ?_
                case hy3h => intro WW hSw; (try dsimp only at hSw); go_simp; try with_reducible rfl
                try simp only [Act.put, List.setIfInBounds_toArray, List.set_cons_zero, List.set_cons_succ]
                refine take_in (i := 4) (v := ?v4h) rfl (by kernel_rfl) (by kernel_rfl) (by kernel_rfl) (fun _ _ _ h => h) (by rfl) ?hy4h (by assumption) ?_
                case hy4h => intro WW hSw; (try dsimp only at hSw); go_simp; try with_reducible rfl
                try simp only [Act.put, List.setIfInBounds_toArray, List.set_cons_zero, List.set_cons_succ]
                refine take_in (i := 5) (v := ?v5h) rfl (by kernel_rfl) (by kernel_rfl) (by kernel_rfl) (fun _ _ _ h => h) (by rfl) ?hy5h (by assumption) ?_
                case hy5h => intro WW hSw; (try dsimp only at hSw); go_simp; try with_reducible rfl
                try simp only [Act.put, List.setIfInBounds_toArray, List.set_cons_zero, List.set_cons_succ]
                refine take_in (i := 6) (v := ?v6h) rfl (by kernel_rfl) (by kernel_rfl) (by kernel_rfl) (fun _ _ _ h => h) (by rfl) ?hy6h (by assumption) ?_
                case hy6h => intro WW hSw; (try dsimp only at hSw); go_simp; try with_reducible rfl
                try simp only [Act.put, List.setIfInBounds_toArray, List.set_cons_zero, List.set_cons_succ]
                refine take_in (i := 7) (v := ?v7h) rfl (by kernel_rfl) (by kernel_rfl) (by kernel_rfl) (fun _ _ _ h => h) (by rfl) ?hy7h (by assumption) ?_
                case hy7h => intro WW hSw; (try dsimp only at hSw); go_simp; try with_reducible rfl
                try simp only [Act.put, List.setIfInBounds_toArray, List.set_cons_zero, List.set_cons_succ]
                refine take_in (i := 8) (v := ?v8h) rfl (by kernel_rfl) (by kernel_rfl) (by kernel_rfl) (fun _ _ _ h => h) (by rfl) ?hy8h (by assumption) ?_
                case hy8h => intro WW hSw; (try dsimp only at hSw); go_simp; try with_reducible rfl
                try simp only [Act.put, List.setIfInBounds_toArray, List.set_cons_zero, List.set_cons_succ]
                refine take_in (i := 9) (v := ?v9h) rfl (by kernel_rfl) (by kernel_rfl) (by kernel_rfl) (fun _ _ _ h => h) (by rfl) ?hy9h (by assumption) ?_
                case hy9h => intro WW hSw; (try dsimp only at hSw); go_simp; try with_reducible rfl
                try simp only [Act.put, List.setIfInBounds_toArray, List.set_cons_zero, List.set_cons_succ]
                refine one_step (i := 10) (by kernel_rfl) rfl (fun K hK => ?_)
                go_simp
                (go_at_call 13; go_loud ((with_reducible refine (hHas _ ?_).mono ?_); exact (by repeat (first | exact Below.refl _ _ | assumption | apply below_drew | apply below_drewn)); rintro e w9 ⟨rfl, hb9⟩; have HB9 : Below w.heap.size w w9 := below_then (by repeat (first | exact Below.refl _ _ | assumption | apply below_drew | apply below_drewn)) hb9; have ho9 := own_next hb9 ho; have hK9 := (hb9.cell (World.block_lt_of_cell? _ _ hKc)).trans hKc; have h09 := (hb9.cell (World.block_lt_of_cell? _ _ h0c)).trans h0c; have hx9 := (hb9.cell (World.block_lt_of_cell? _ _ hx)).trans hx))
                refine hK.out _ _ ?_ (fun hHeld => ?_)
                · first | exact ⟨hKc, h0c, hx⟩ | exact ⟨hK9, h09, hx9⟩
                clear hK K
                try simp only [Act.put, List.setIfInBounds_toArray, List.set_cons_zero, List.set_cons_succ]
                refine take_in (i := 11) (v := ?v11h) rfl (by kernel_rfl) (by kernel_rfl) (by kernel_rfl) (fun _ _ _ h => h) (by rfl) ?hy11h (by assumption) ?_
                case hy11h => intro WW hSw; (try dsimp only at hSw); go_simp; try with_reducible rfl
                try simp only [Act.put, List.setIfInBounds_toArray, List.set_cons_zero, List.set_cons_succ]
                refine wpAnyH_done (by kernel_rfl) ?_ _
                go_wp2
                go_roundg (gk - 1)
                case measure => omega
                case rel => exact ⟨k + 1, b2, by omega, by omega, by omega, rfl, by go_num, by first | exact ho9 | exact ho9.drew, by first | exact HB9 | exact below_drew HB9 | exact ⟨HB9.os, HB9.tape, HB9.output, HB9.size, HB9.block⟩, ⟨HB2.out⟩⟩
              · obtain rfl : k = j := by omega
                have hkmi : ¬ (k : Int) < (k : Int) := by omega
                have hrb : restB ls x = true := by
                  rw [← part_all, HLM.out]
                  exact HP.out.symm
                have HRB := Aside0.mk hrb
                clear hrb HP
                have hB : w.heap.size ≤ wr.heap.size := HBy.size
                go_wp2_with (at_builtin; go_loud (refine append_num rfl (.tmp 73) (.tmp 80) rfl w.heap.size _ _ _ rfl ho x rfl HOL.out hB ?_))
                intro v9 w9 ho9 hfr9 hb9
                have HB9 : Below w.heap.size w w9 := HBy.trans hb9
                clear ho hfr9 hb9
                go_wp2
                go_roundg (G - 1)
                case measure => have := HG.out; have := HGI.out; omega
                case rel => exact ⟨i + 1, by omega, by have := HG.out; have := HGI.out; omega, by go_num, by rw [HFN.out, HRB.out]; simpa [numCells] using ho9, HB9⟩
        · obtain rfl : i = u := by omega
          have hiu' : ¬ (i : Int) < (i : Int) := by omega
          rw [List.take_of_length_le (by have := HU.out; omega), ← HCOM.out] at ho
          go_wp2
          first
            | go_ret2
            | go_ret
          refine ⟨u6, ?_, ?_, HBx⟩
          · rw [meetE, if_neg HNE.out, if_pos HUP.out]
            rfl
          · rw [meetL, if_pos HUP.out]
            exact ho
end Go.Proofs.Ytgaiedcjcoebeaa
