/- The document's columns: New, Append. The document's Of. The document's columns: At, Nulls, Dict. -/
import Derived.Test.YtbdbcbpcekpcoaaDoorCvInt
import Derived.Test.YtbdbcbpcekpcoaaDoorRegS
import Derived.Test.YtbdbcbpcekpcoaaDoorRRight
import Derived.Test.YtbdbcbpcekpcoaaDoorCvDi
set_option linter.unusedVariables false
set_option linter.unusedSimpArgs false
namespace Go.Proofs.YtbdbcbpcekpcoaaDoor
open Go.RowKit

open Go.RowKit Go.Maps

/-- Either of two may come. -/
theorem two_step {P : Program} {ops : Array Oper} {Q : Exit → Act → World → Prop} {S : World → Prop} {md : Region.Mode} {i j : Nat} {oi oj : Oper} {fuel : Nat} {listed : Array Bool} {a : Act} {w : World} (hr : Region.ready md ops listed = [i, j]) (hi : nthOp ops.toList i = some oi) (hj : nthOp ops.toList j = some oj)
    (h : ∀ K' : Act → World → Prop, Shut (∀ a w, S w → (S w → wpAnyH P md ops Q S fuel (listed.setIfInBounds i true) a w) → K' a w) → if Region.wanted oi (yielded ops a.tmps) = true then Oper.wp P oi a w K' Q else K' (a.put oi.dst undef) w)
    (h2 : ∀ K' : Act → World → Prop, Shut (∀ a w, S w → (S w → wpAnyH P md ops Q S fuel (listed.setIfInBounds j true) a w) → K' a w) → if Region.wanted oj (yielded ops a.tmps) = true then Oper.wp P oj a w K' Q else K' (a.put oj.dst undef) w) :
    wpAnyH P md ops Q S (fuel + 1) listed a w :=
  wpAnyH_ready hr (by simp) (AllReadyH.cons (nthOp_at hi) h (AllReadyH.cons (nthOp_at hj) h2 AllReadyH.nil))
/-- A box of a column of the document. -/
def RBox (W : World) (b : Nat) (cs : Array Value) : Prop := W.heap[b]? = some (.cells cs 56 (0, 0))
theorem RBox.cells {W : World} {b : Nat} {cs : Array Value} (h : RBox W b cs) : ∀ j, W.cell? ⟨b, j, none⟩ = cs[j]? := fun j => by
  unfold World.cell?
  rw [h]
  rfl
theorem RBox.free {W : World} {b : Nat} {cs : Array Value} (h : RBox W b cs) : ∀ j, W.frozen? ⟨b, j, none⟩ = false := fun j => Lib.frozen_of_heap h j
theorem RBox.new (W : World) (cs : Array Value) : RBox (W.alloc (.cells cs 56)) W.heap.size cs := heap_alloc_new W _
theorem RBox.lt {W : World} {b : Nat} {cs : Array Value} (h : RBox W b cs) : b < W.heap.size := (Array.getElem?_eq_some_iff.1 h).1
theorem RBox.at_ {W W' : World} {b : Nat} {cs : Array Value} (h : RBox W b cs) (hk : W'.heap[b]? = W.heap[b]?) : RBox W' b cs := hk.trans h
theorem RBox.put {W : World} {b : Nat} {cs : Array Value} (h : RBox W b cs) (j : Nat) (v : Value) : RBox (W.setCell ⟨b, j, none⟩ v) b (cs.setIfInBounds j v) := heap_setCell_same W b j cs _ v h
/-- A column of the document that grows: its row is its own. -/
structure RV (W : World) (B : Nat) (k : Int) (rb : Nat) (us : List V5) (rv : Value) : Prop where
  box : RBox W rb #[.int .i64 k, rv]
  own : OwnV W B rv us
  at_ : B ≤ rb
  ne : rv.ownBlock ≠ some rb
  old : ∀ u ∈ us, ∀ a, u.A = some a → 0 < u.p.length → a.block < B
theorem RV.size {W : World} {B : Nat} {k : Int} {rb : Nat} {us : List V5} {rv : Value} (h : RV W B k rb us rv) : B ≤ W.heap.size := by
  have := h.box.lt
  have := h.at_
  omega
theorem RV.below {W W' : World} {B : Nat} {k : Int} {rb : Nat} {us : List V5} {rv : Value} (h : RV W B k rb us rv) (hb : Below W.heap.size W W') : RV W' B k rb us rv :=
  ⟨h.box.at_ (hb.block _ h.box.lt), h.own.below hb, h.at_, h.ne, h.old⟩
theorem ownV_at {W W' : World} {B : Nat} {rv : Value} {us : List V5} (h : OwnV W B rv us) (hk : ∀ k, k < W.heap.size → (rv.ownBlock = some k ∨ k < B) → W'.heap[k]? = W.heap[k]?) (hold : ∀ u ∈ us, ∀ a, u.A = some a → 0 < u.p.length → a.block < B) (hB : B ≤ W.heap.size) : OwnV W' B rv us :=
  ⟨own_at h.row (fun k hk1 e => hk k hk1 (.inl e)), fun u hu => (by
    have hr := h.path u hu
    refine ⟨hr.1, fun hp => ?_⟩
    obtain ⟨ad, e, hc⟩ := hr.2 hp
    refine ⟨ad, e, fun j hj => ?_⟩
    have hb : (ad.add j).block = ad.block := by
      unfold Addr.add
      split <;> rfl
    have hlt := hold u hu ad e hp
    rw [← hc j hj]
    unfold World.cell?
    rw [hk (ad.add j).block (by rw [hb]; omega) (.inr (by rw [hb]; exact hlt))]), h.apart, h.num⟩
theorem readsV_new (W : World) (v : V5) (hrd : ReadsI W v.A v.p) (hnum : -9223372036854775808 ≤ v.n ∧ v.n ≤ 9223372036854775807) : ReadsV (W.alloc (.cells #[.int .i64 v.k, .bool v.b, .int .i64 v.n, .string v.s, .slice v.A v.p.length v.c] 39)) (some ⟨W.heap.size, 0, none⟩) [v] := by
  have hc : ∀ j, (W.alloc (.cells #[.int .i64 v.k, .bool v.b, .int .i64 v.n, .string v.s, .slice v.A v.p.length v.c] 39)).cell? ⟨W.heap.size, j, none⟩ = (#[.int .i64 v.k, .bool v.b, .int .i64 v.n, .string v.s, .slice v.A v.p.length v.c] : Array Value)[j]? := (Box.new W _).cells
  refine ⟨by simp, fun j hj => ⟨_, rfl, ?_⟩, fun u hu => ?_, fun u hu => ?_⟩
  · obtain rfl : j = 0 := by simpa using hj
    have ha : (⟨W.heap.size, 0, none⟩ : Addr).add (0 * 5) = ⟨W.heap.size, 0, none⟩ := add_0 _ _
    rw [ha]
    exact ⟨by simp, rfl, hc 0, hc 1, hc 2, hc 3, hc 4⟩
  · simp at hu
    subst hu
    exact hrd.below (below_more (Below.refl _ _) _)
  · simp at hu
    subst hu
    exact hnum
theorem bdrew {B : Nat} {W W' : World} (h : Below B W W') : Below B W W'.drew := ⟨h.os, h.tape, h.output, h.size, h.block⟩
theorem balloc {B : Nat} {W W' : World} (h : Below B W W') (hB : B ≤ W'.heap.size) (o : Obj) : Below B W (W'.alloc o) := h.alloc hB o
theorem kb_alloc {F : Nat → Prop} {W W' : World} {o : Obj} (h : KeptBut F W W') : KeptBut F W (W'.alloc o) := h.trans (keptBut_alloc (F := F) W' o) (fun _ _ h => h)
theorem rbox_more {W : World} {b : Nat} {cs : Array Value} (h : RBox W b cs) : ∀ (o : Obj) (j : Nat), (W.alloc o).drew.cell? ⟨b, j, none⟩ = cs[j]? ∧ (W.alloc o).drew.drew.cell? ⟨b, j, none⟩ = cs[j]? := fun o j => by
  have h1 : RBox (W.alloc o) b cs := h.at_ (heap_alloc_old W o h.lt)
  exact ⟨h1.cells j, h1.cells j⟩
theorem rnew_ok (k : Int) (w : World) (h : 1 ≤ k ∧ k ≤ 6) : Calls Tryd.prog 8 #[.int .i64 k] w fun e w' => e = .returned (.pointer (some ⟨w.heap.size, 0, none⟩)) ∧ RV w' w.heap.size k w.heap.size [] (.slice none 0 0) ∧ Below w.heap.size w w' := by
  have hn1 : ¬ k < 1 := by omega
  have hn2 : ¬ 6 < k := by omega
  go_enter Tryd.func8, Tryd.ntmps8
  go_wp2
  go_ret
  exact ⟨rfl, ⟨RBox.new w _, (ownV_nil _ _), Nat.le_refl _, (by simp [Value.ownBlock]), fun u hu => by cases hu⟩, below_more (Below.refl _ _) _⟩
theorem rnew_none (k : Int) (w : World) (h : ¬ (1 ≤ k ∧ k ≤ 6)) : Calls Tryd.prog 8 #[.int .i64 k] w fun e w' => e = .returned (.pointer none) ∧ w' = w := by
  by_cases hk : k < 1
  · go_enter Tryd.func8, Tryd.ntmps8
    go_wp2
    go_ret
    exact ⟨rfl, rfl⟩
  · have hn2 : 6 < k := by omega
    go_enter Tryd.func8, Tryd.ntmps8
    go_wp2
    go_ret
    exact ⟨rfl, rfl⟩
set_option maxRecDepth 100000 in
set_option maxHeartbeats 3200000 in
theorem rapp_any (k : Int) (rb B : Nat) (us : List V5) (rv : Value) (v : V5) (w : World) (h : RV w B k rb us rv) (hT : Lib.Utf8Tabs 0 1 w) (hrd : ReadsI w v.A v.p) (hss : v.s.size ≤ 9223372036854775807) (hold : ∀ a, v.A = some a → 0 < v.p.length → a.block < B) (hn : us.length ≤ 100000000000) (hnum : -9223372036854775808 ≤ v.n ∧ v.n ≤ 9223372036854775807) :
    Calls Tryd.prog 13 #[.pointer (some ⟨rb, 0, none⟩), v.val] w fun e w' => e = .returned (.int .i64 (errV k v)) ∧ (∃ rv', RV w' B k rb (if fitsV k v then us ++ [v] else us) rv') ∧ Below B w w' := by
  obtain ⟨vk, vn, vb, vss, vA, vp, vc⟩ := v
  simp only at hrd hss hold hnum
  unfold V5.val
  obtain ⟨W1, hW1⟩ : ∃ W1, W1 = w.alloc (.cells #[.int .i64 vk, .bool vb, .int .i64 vn, .string vss, .slice vA vp.length vc] 39) := ⟨_, rfl⟩
  have hx1 : Box W1 w.heap.size #[.int .i64 vk, .bool vb, .int .i64 vn, .string vss, .slice vA vp.length vc] := by rw [hW1]; exact Box.new w _
  have HB1 : Below w.heap.size w W1 := by rw [hW1]; exact below_more (Below.refl _ _) _
  have hrr := rright_any vk vn vb vss vA vp vc W1 (hrd.below HB1) hss (Utf8Tabs_below hT HB1)
  have HF : Aside0 (fitsV k ⟨vk, vn, vb, vss, vA, vp, vc⟩ = (rightB vk vb vn vss vp && (vk == k || vk == 0))) := ⟨rfl⟩
  obtain ⟨R, hR⟩ : ∃ R, R = rightB vk vb vn vss vp := ⟨_, rfl⟩
  rw [← hR] at hrr HF
  have HV := Aside0.mk h
  have HP := Aside0.mk (And.intro hrd (And.intro hold hnum))
  have hBs := h.size
  obtain ⟨A5, c5, rfl, hrd5⟩ := h.own.reads
  have HXN : Aside0 (∀ j, (Value.slice A5 us.length c5).ownBlock = some j → j < w.heap.size) := ⟨fun j e => (h.own.row.lt j e).2⟩
  obtain ⟨RL, hRL⟩ : ∃ RL, RL = if fitsV k ⟨vk, vn, vb, vss, vA, vp, vc⟩ then us ++ [⟨vk, vn, vb, vss, vA, vp, vc⟩] else us := ⟨_, rfl⟩
  obtain ⟨RE, hRE⟩ : ∃ RE, RE = errV k ⟨vk, vn, vb, vss, vA, vp, vc⟩ := ⟨_, rfl⟩
  rw [← hRL, ← hRE]
  have HRR := Aside0.mk (And.intro hRL hRE)
  have hxc := hx1.cells
  have hxf := hx1.free
  clear hR h hrd hold hT hrd5 hRL hRE
  go_enter Tryd.func13, Tryd.ntmps13
  go_upto_region 1 with (fail)
  rw [← hW1]
  clear hW1
  go_upto_region 2 with (go_at_call 32; go_loud (refine hrr.mono ?_))
  first
    | (intro e W2 he hb2; subst he)
    | rintro e W2 ⟨rfl, hb2⟩
  have HB2 : Below w.heap.size w W2 := below_then HB1 hb2
  have hx2 : Box W2 w.heap.size #[.int .i64 vk, .bool vb, .int .i64 vn, .string vss, .slice vA vp.length vc] := hx1.at_ (hb2.block _ hx1.lt)
  have HV2 := Aside0.mk (HV.out.below HB2)
  have hr2 := HV2.out.box
  have hlx : w.heap.size < W2.heap.size := hx2.lt
  have hlr : rb < W2.heap.size := hr2.lt
  have HLX : Aside0 (∀ WW, Below W2.heap.size W2 WW → ∀ j, WW.cell? ⟨w.heap.size, j, none⟩ = (#[.int .i64 vk, .bool vb, .int .i64 vn, .string vss, .slice vA vp.length vc] : Array Value)[j]?) := ⟨fun WW h => (hx2.at_ (h.block _ hlx)).cells⟩
  have HLR : Aside0 (∀ WW, Below W2.heap.size W2 WW → ∀ j, WW.cell? ⟨rb, j, none⟩ = (#[.int .i64 k, .slice A5 us.length c5] : Array Value)[j]?) := ⟨fun WW h => (hr2.at_ (h.block _ hlr)).cells⟩
  have HBB := Aside0.mk HB2
  have HX2 := Aside0.mk hx2
  obtain ⟨bx, hbx⟩ : ∃ bx, bx = w.heap.size := ⟨_, rfl⟩
  rw [← hbx] at hxc HLX HX2 hlx ⊢
  have HBX := Aside0.mk hbx
  have HNE : Aside0 (bx ≠ rb) := ⟨by have := HV.out.box.lt; omega⟩
  clear hbx
  clear hrr hb2 hx1 hx2 hr2 HB1 HB2 hxc hxf HV hlx hlr
  cases R
  · skip
    go_upto_region 2 with (fail)
    refine wp_region_held_drew (S := (fun WW => Below W2.heap.size W2 WW)) (by kernel_rfl) ?_ (fun hHeld => ?_)
    · first | exact Below.refl _ _ | exact below_drew (Below.refl _ _)
    refine take_in (i := 0) (v := ?v0a) rfl (by kernel_rfl) (by kernel_rfl) (by kernel_rfl) (fun _ _ _ h => h) (by rfl) ?hy0a (by assumption) ?_
    case hy0a => intro WW hSw; (try dsimp only at hSw); go_simp; try with_reducible rfl
    try simp only [Act.put, List.setIfInBounds_toArray, List.set_cons_zero, List.set_cons_succ]
    refine take_in (i := 1) (v := .bool true) rfl (by kernel_rfl) (by kernel_rfl) (by kernel_rfl) (fun _ _ _ h => h) (by rfl) ?hy1a (by assumption) ?_
    case hy1a => intro WW hSw; (try dsimp only at hSw); go_simp; try with_reducible rfl
    try simp only [Act.put, List.setIfInBounds_toArray, List.set_cons_zero, List.set_cons_succ]
    refine take_in (i := 2) (v := .bool true) rfl (by kernel_rfl) (by kernel_rfl) (by kernel_rfl) (fun _ _ _ h => h) (by rfl) ?hy2a (by assumption) ?_
    case hy2a => intro WW hSw; (try dsimp only at hSw); go_simp; try with_reducible rfl
    try simp only [Act.put, List.setIfInBounds_toArray, List.set_cons_zero, List.set_cons_succ]
    refine take_out (i := 3) rfl (by kernel_rfl) (by kernel_rfl) (by kernel_rfl) (fun _ _ _ h => h) (by rfl) (by assumption) ?_
    try simp only [Act.put, List.setIfInBounds_toArray, List.set_cons_zero, List.set_cons_succ]
    refine take_out (i := 4) rfl (by kernel_rfl) (by kernel_rfl) (by kernel_rfl) (fun _ _ _ h => h) (by rfl) (by assumption) ?_
    try simp only [Act.put, List.setIfInBounds_toArray, List.set_cons_zero, List.set_cons_succ]
    refine take_out (i := 5) rfl (by kernel_rfl) (by kernel_rfl) (by kernel_rfl) (fun _ _ _ h => h) (by rfl) (by assumption) ?_
    try simp only [Act.put, List.setIfInBounds_toArray, List.set_cons_zero, List.set_cons_succ]
    refine take_out (i := 6) rfl (by kernel_rfl) (by kernel_rfl) (by kernel_rfl) (fun _ _ _ h => h) (by rfl) (by assumption) ?_
    try simp only [Act.put, List.setIfInBounds_toArray, List.set_cons_zero, List.set_cons_succ]
    refine take_out (i := 7) rfl (by kernel_rfl) (by kernel_rfl) (by kernel_rfl) (fun _ _ _ h => h) (by rfl) (by assumption) ?_
    try simp only [Act.put, List.setIfInBounds_toArray, List.set_cons_zero, List.set_cons_succ]
    refine take_out (i := 8) rfl (by kernel_rfl) (by kernel_rfl) (by kernel_rfl) (fun _ _ _ h => h) (by rfl) (by assumption) ?_
    try simp only [Act.put, List.setIfInBounds_toArray, List.set_cons_zero, List.set_cons_succ]
    refine take_out (i := 9) rfl (by kernel_rfl) (by kernel_rfl) (by kernel_rfl) (fun _ _ _ h => h) (by rfl) (by assumption) ?_
    try simp only [Act.put, List.setIfInBounds_toArray, List.set_cons_zero, List.set_cons_succ]
    refine take_out (i := 10) rfl (by kernel_rfl) (by kernel_rfl) (by kernel_rfl) (fun _ _ _ h => h) (by rfl) (by assumption) ?_
    try simp only [Act.put, List.setIfInBounds_toArray, List.set_cons_zero, List.set_cons_succ]
    refine take_out (i := 11) rfl (by kernel_rfl) (by kernel_rfl) (by kernel_rfl) (fun _ _ _ h => h) (by rfl) (by assumption) ?_
    try simp only [Act.put, List.setIfInBounds_toArray, List.set_cons_zero, List.set_cons_succ]
    refine take_out (i := 12) rfl (by kernel_rfl) (by kernel_rfl) (by kernel_rfl) (fun _ _ _ h => h) (by rfl) (by assumption) ?_
    try simp only [Act.put, List.setIfInBounds_toArray, List.set_cons_zero, List.set_cons_succ]
    refine take_out (i := 13) rfl (by kernel_rfl) (by kernel_rfl) (by kernel_rfl) (fun _ _ _ h => h) (by rfl) (by assumption) ?_
    try simp only [Act.put, List.setIfInBounds_toArray, List.set_cons_zero, List.set_cons_succ]
    refine take_out (i := 14) rfl (by kernel_rfl) (by kernel_rfl) (by kernel_rfl) (fun _ _ _ h => h) (by rfl) (by assumption) ?_
    try simp only [Act.put, List.setIfInBounds_toArray, List.set_cons_zero, List.set_cons_succ]
    refine take_in (i := 15) (v := .bool true) rfl (by kernel_rfl) (by kernel_rfl) (by kernel_rfl) (fun _ _ _ h => h) (by rfl) ?hy15a (by assumption) ?_
    case hy15a => intro WW hSw; (try dsimp only at hSw); go_simp; try with_reducible rfl
    try simp only [Act.put, List.setIfInBounds_toArray, List.set_cons_zero, List.set_cons_succ]
    refine wpAnyH_done (by kernel_rfl) ?_ _
    go_wp2
    go_ret
    have hf := HF.out
    rw [Bool.false_and] at hf
    exact ⟨by rw [HRR.out.2, errV, hf]; rfl, ⟨_, by rw [HRR.out.1, hf]; exact HV2.out.below (by repeat (first | exact Below.refl _ _ | apply below_drew))⟩, (by repeat (first | exact HBB.out.mono hBs | apply bdrew))⟩
  · skip
    by_cases hk : vk = k
    · have hvk : (vk != k) = false := by simp [hk]
      have HFA : Aside0 ((true && (vk == k || vk == 0)) = true) := ⟨by simp [hk]⟩
      clear hk
      go_upto_region 2 with (fail)
      refine wp_region_held_drew (S := (fun WW => Below W2.heap.size W2 WW)) (by kernel_rfl) ?_ (fun hHeld => ?_)
      · first | exact Below.refl _ _ | exact below_drew (Below.refl _ _)
      refine take_in (i := 0) (v := ?v0b) rfl (by kernel_rfl) (by kernel_rfl) (by kernel_rfl) (fun _ _ _ h => h) (by rfl) ?hy0b (by assumption) ?_
      case hy0b => intro WW hSw; (try dsimp only at hSw); go_simp; try with_reducible rfl
      try simp only [Act.put, List.setIfInBounds_toArray, List.set_cons_zero, List.set_cons_succ]
      refine take_in (i := 1) (v := .bool false) rfl (by kernel_rfl) (by kernel_rfl) (by kernel_rfl) (fun _ _ _ h => h) (by rfl) ?hy1b (by assumption) ?_
      case hy1b => intro WW hSw; (try dsimp only at hSw); go_simp; try with_reducible rfl
      try simp only [Act.put, List.setIfInBounds_toArray, List.set_cons_zero, List.set_cons_succ]
      refine take_in (i := 2) (v := .bool false) rfl (by kernel_rfl) (by kernel_rfl) (by kernel_rfl) (fun _ _ _ h => h) (by rfl) ?hy2b (by assumption) ?_
      case hy2b => intro WW hSw; (try dsimp only at hSw); go_simp; try with_reducible rfl
      try simp only [Act.put, List.setIfInBounds_toArray, List.set_cons_zero, List.set_cons_succ]
      refine take_in (i := 3) (v := ?v3b) rfl (by kernel_rfl) (by kernel_rfl) (by kernel_rfl) (fun _ _ _ h => h) (by rfl) ?hy3b (by assumption) ?_
      case hy3b => intro WW hSw; (try dsimp only at hSw); go_simp; try with_reducible rfl
      try simp only [Act.put, List.setIfInBounds_toArray, List.set_cons_zero, List.set_cons_succ]
      refine take_in (i := 4) (v := .int .i64 vk) rfl (by kernel_rfl) (by kernel_rfl) (by kernel_rfl) (fun _ _ _ h => h) (by rfl) ?hy4b (by assumption) ?_
      case hy4b => intro WW hSw; have h1 := HLX.out WW hSw; have h2 := HLR.out WW hSw; go_simp; try with_reducible rfl
      try simp only [Act.put, List.setIfInBounds_toArray, List.set_cons_zero, List.set_cons_succ]
      refine take_in (i := 5) (v := ?v5b) rfl (by kernel_rfl) (by kernel_rfl) (by kernel_rfl) (fun _ _ _ h => h) (by rfl) ?hy5b (by assumption) ?_
      case hy5b => intro WW hSw; (try dsimp only at hSw); go_simp; try with_reducible rfl
      try simp only [Act.put, List.setIfInBounds_toArray, List.set_cons_zero, List.set_cons_succ]
      refine take_in (i := 6) (v := ?v6b) rfl (by kernel_rfl) (by kernel_rfl) (by kernel_rfl) (fun _ _ _ h => h) (by rfl) ?hy6b (by assumption) ?_
      case hy6b => intro WW hSw; (try dsimp only at hSw); go_simp; try with_reducible rfl
      try simp only [Act.put, List.setIfInBounds_toArray, List.set_cons_zero, List.set_cons_succ]
      refine take_in (i := 7) (v := ?v7b) rfl (by kernel_rfl) (by kernel_rfl) (by kernel_rfl) (fun _ _ _ h => h) (by rfl) ?hy7b (by assumption) ?_
      case hy7b => intro WW hSw; (try dsimp only at hSw); go_simp; try with_reducible rfl
      try simp only [Act.put, List.setIfInBounds_toArray, List.set_cons_zero, List.set_cons_succ]
      refine take_in (i := 8) (v := .int .i64 k) rfl (by kernel_rfl) (by kernel_rfl) (by kernel_rfl) (fun _ _ _ h => h) (by rfl) ?hy8b (by assumption) ?_
      case hy8b => intro WW hSw; have h1 := HLX.out WW hSw; have h2 := HLR.out WW hSw; go_simp; try with_reducible rfl
      try simp only [Act.put, List.setIfInBounds_toArray, List.set_cons_zero, List.set_cons_succ]
      refine take_in (i := 9) (v := .bool false) rfl (by kernel_rfl) (by kernel_rfl) (by kernel_rfl) (fun _ _ _ h => h) (by rfl) ?hy9b (by assumption) ?_
      case hy9b => intro WW hSw; have hh := hvk; go_simp; try with_reducible rfl
      try simp only [Act.put, List.setIfInBounds_toArray, List.set_cons_zero, List.set_cons_succ]
      refine take_in (i := 10) (v := .bool false) rfl (by kernel_rfl) (by kernel_rfl) (by kernel_rfl) (fun _ _ _ h => h) (by rfl) ?hy10b (by assumption) ?_
      case hy10b => intro WW hSw; (try dsimp only at hSw); go_simp; try with_reducible rfl
      try simp only [Act.put, List.setIfInBounds_toArray, List.set_cons_zero, List.set_cons_succ]
      refine take_out (i := 11) rfl (by kernel_rfl) (by kernel_rfl) (by kernel_rfl) (fun _ _ _ h => h) (by rfl) (by assumption) ?_
      try simp only [Act.put, List.setIfInBounds_toArray, List.set_cons_zero, List.set_cons_succ]
      refine take_out (i := 12) rfl (by kernel_rfl) (by kernel_rfl) (by kernel_rfl) (fun _ _ _ h => h) (by rfl) (by assumption) ?_
      try simp only [Act.put, List.setIfInBounds_toArray, List.set_cons_zero, List.set_cons_succ]
      refine take_out (i := 13) rfl (by kernel_rfl) (by kernel_rfl) (by kernel_rfl) (fun _ _ _ h => h) (by rfl) (by assumption) ?_
      try simp only [Act.put, List.setIfInBounds_toArray, List.set_cons_zero, List.set_cons_succ]
      refine take_in (i := 14) (v := .bool false) rfl (by kernel_rfl) (by kernel_rfl) (by kernel_rfl) (fun _ _ _ h => h) (by rfl) ?hy14b (by assumption) ?_
      case hy14b => intro WW hSw; (try dsimp only at hSw); go_simp; try with_reducible rfl
      try simp only [Act.put, List.setIfInBounds_toArray, List.set_cons_zero, List.set_cons_succ]
      refine take_in (i := 15) (v := .bool false) rfl (by kernel_rfl) (by kernel_rfl) (by kernel_rfl) (fun _ _ _ h => h) (by rfl) ?hy15b (by assumption) ?_
      case hy15b => intro WW hSw; (try dsimp only at hSw); go_simp; try with_reducible rfl
      try simp only [Act.put, List.setIfInBounds_toArray, List.set_cons_zero, List.set_cons_succ]
      refine wpAnyH_done (by kernel_rfl) ?_ _
      obtain ⟨FO, hFO⟩ : ∃ FO : Nat → Prop, FO = fun j => Value.ownBlock (.slice A5 us.length c5) = some j ∨ j = rb := ⟨_, rfl⟩
      have HFO := Aside0.mk hFO
      have hB2 : B ≤ W2.heap.size := HV2.out.size
      have HKX : Aside0 (∀ WW, KeptBut FO W2 WW → ∀ j, WW.cell? ⟨bx, j, none⟩ = (#[.int .i64 vk, .bool vb, .int .i64 vn, .string vss, .slice vA vp.length vc] : Array Value)[j]?) := ⟨fun WW h => (HX2.out.at_ (h.block _ HX2.out.lt (fun e => by
        rw [hFO] at e
        rcases e with e | e
        · have h1 := HBX.out; have h3 := HXN.out bx e; omega
        · exact HNE.out e))).cells⟩
      clear hFO
      go_upto_region 4 with (fail)
      refine wp_region_held_drew (S := (fun WW => KeptBut FO W2 WW)) (by kernel_rfl) ?_ (fun hHeld => ?_)
      · (repeat (first | exact HK10 | exact HK5 | exact KeptBut.refl _ _ | apply keptBut_drew | apply kb_alloc))
      refine take_in (i := 0) (v := ?v0c) rfl (by kernel_rfl) (by kernel_rfl) (by kernel_rfl) (fun _ _ _ h => h) (by rfl) ?hy0c (by assumption) ?_
      case hy0c => intro WW hSw; (try dsimp only at hSw); go_simp; try with_reducible rfl
      try simp only [Act.put, List.setIfInBounds_toArray, List.set_cons_zero, List.set_cons_succ]
      refine take_in (i := 1) (v := ?v1c) rfl (by kernel_rfl) (by kernel_rfl) (by kernel_rfl) (fun _ _ _ h => h) (by rfl) ?hy1c (by assumption) ?_
      case hy1c => intro WW hSw; (try dsimp only at hSw); go_simp; try with_reducible rfl
      try simp only [Act.put, List.setIfInBounds_toArray, List.set_cons_zero, List.set_cons_succ]
      refine take_in (i := 2) (v := ?v2c) rfl (by kernel_rfl) (by kernel_rfl) (by kernel_rfl) (fun _ _ _ h => h) (by rfl) ?hy2c (by assumption) ?_
      case hy2c => intro WW hSw; (try dsimp only at hSw); go_simp; try with_reducible rfl
      try simp only [Act.put, List.setIfInBounds_toArray, List.set_cons_zero, List.set_cons_succ]
      refine take_in (i := 3) (v := ?v3c) rfl (by kernel_rfl) (by kernel_rfl) (by kernel_rfl) (fun _ _ _ h => h) (by rfl) ?hy3c (by assumption) ?_
      case hy3c => intro WW hSw; (try dsimp only at hSw); go_simp; try with_reducible rfl
      try simp only [Act.put, List.setIfInBounds_toArray, List.set_cons_zero, List.set_cons_succ]
      refine take_in (i := 5) (v := .agg #[.int .i64 vk, .bool vb, .int .i64 vn, .string vss, .slice vA vp.length vc]) rfl (by kernel_rfl) (by kernel_rfl) (by kernel_rfl) (fun _ _ _ h => h) (by rfl) ?hy5c (by assumption) ?_
      case hy5c => intro WW hSw; have h1 := HKX.out WW hSw; go_simp; try with_reducible rfl
      try simp only [Act.put, List.setIfInBounds_toArray, List.set_cons_zero, List.set_cons_succ]
      refine two_step (i := 4) (j := 6) (by kernel_rfl) rfl rfl (fun K hK => ?_) (fun K hK => ?_)
      · skip
        have hc4 := HV2.out.box.cells
        have hf4 := HV2.out.box.free
        have hc5 := rbox_more HV2.out.box
        go_simp
        clear hc4 hf4 hc5
        refine hK.out _ _ ?_ (fun hHeld => ?_)
        · (repeat (first | exact HK10 | exact HK5 | exact KeptBut.refl _ _ | apply keptBut_drew | apply kb_alloc))
        clear hK K
        try simp only [Act.put, List.setIfInBounds_toArray, List.set_cons_zero, List.set_cons_succ]
        refine one_step (i := 6) (by kernel_rfl) rfl (fun K hK => ?_)
        go_simp
        refine hK.out _ _ ?_ (fun hHeld => ?_)
        · (repeat (first | exact HK10 | exact HK5 | exact KeptBut.refl _ _ | apply keptBut_drew | apply kb_alloc))
        clear hK K
        try simp only [Act.put, List.setIfInBounds_toArray, List.set_cons_zero, List.set_cons_succ]
        refine one_step (i := 7) (by kernel_rfl) rfl (fun K hK => ?_)
        refine of_if (by rfl) ?_
        refine append_valsG (.tmp 28) (.tmp 30) rfl B (.slice A5 us.length c5) us rfl ?hown ?hbb (some ⟨W2.heap.size, 0, none⟩) [⟨vk, vn, vb, vss, vA, vp, vc⟩] 1 rfl ?hrd ?hap (by simp; omega) ?_
        case hown => exact HV2.out.own.below (by repeat (first | exact Below.refl _ _ | apply below_drew | apply below_more))
        case hbb => have := HV2.out.size; simp; omega
        case hrd =>
          have h := readsV_new W2 ⟨vk, vn, vb, vss, vA, vp, vc⟩ (HP.out.1.below HBB.out) HP.out.2.2
          dsimp only at h
          exact h.below (by repeat (first | exact Below.refl _ _ | apply bdrew))
        case hap => intro u hu a e hp e2; simp at hu; subst hu; have h1 := HP.out.2.1 a e hp; have h2 := (HV2.out.own.row.lt a.block e2).1; omega
        intro v5 W5 hO5 hb5 hg5 hat5
        have HK5 : KeptBut FO W2 W5 := (show KeptBut FO W2 _ from by (repeat (first | exact KeptBut.refl _ _ | apply keptBut_drew | apply kb_alloc))).trans (keptBut_grown (F := FO) hg5 (fun k e => by rw [HFO.out]; exact .inl e)) (fun _ _ h => h)
        have HAT : Aside0 (∀ j, v5.ownBlock = some j → j ≠ rb) := ⟨fun j e e2 => by
          subst e2
          rcases hat5 with h | h
          · rw [h] at e; exact HV2.out.ne e
          · rw [h] at e; have := HV2.out.box.lt; simp at e; omega⟩
        have HBX5 : Aside0 (RBox W5 rb #[.int .i64 k, .slice A5 us.length c5]) := ⟨HV2.out.box.at_ ((hg5.block rb (by have := HV2.out.box.lt; simp; omega) (fun e => HV2.out.ne e.symm)).trans (by first | exact heap_alloc_old W2 _ HV2.out.box.lt | rfl))⟩
        obtain ⟨A6, c6, rfl, hrd6⟩ := hO5.reads
        have HAT : Aside0 (∀ j, (Value.slice A6 (us.length + 1) c6).ownBlock = some j → j ≠ rb) := ⟨by have h := HAT.out; rw [List.length_append, List.length_cons, List.length_nil] at h; exact h⟩
        have HO5 := Aside0.mk (And.intro hO5 (HBB.out.mono hBs |>.trans ((show Below B W2 _ from by repeat (first | exact Below.refl _ _ | exact balloc (Below.refl _ _) hB2 _ | apply bdrew)).trans hb5)))
        rw [List.length_append, List.length_cons, List.length_nil]
        clear hO5 hb5 hg5 hat5 hrd6
        refine hK.out _ _ ?_ (fun hHeld => ?_)
        · (repeat (first | exact HK10 | exact HK5 | exact KeptBut.refl _ _ | apply keptBut_drew | apply kb_alloc))
        clear hK K
        try simp only [Act.put, List.setIfInBounds_toArray, List.set_cons_zero, List.set_cons_succ]
        refine take_in (i := 8) (v := ?v8cp) rfl (by kernel_rfl) (by kernel_rfl) (by kernel_rfl) (fun _ _ _ h => h) (by rfl) ?hy8cp (by assumption) ?_
        case hy8cp => intro WW hSw; (try dsimp only at hSw); go_simp; try with_reducible rfl
        try simp only [Act.put, List.setIfInBounds_toArray, List.set_cons_zero, List.set_cons_succ]
        refine take_in (i := 9) (v := ?v9cp) rfl (by kernel_rfl) (by kernel_rfl) (by kernel_rfl) (fun _ _ _ h => h) (by rfl) ?hy9cp (by assumption) ?_
        case hy9cp => intro WW hSw; (try dsimp only at hSw); go_simp; try with_reducible rfl
        try simp only [Act.put, List.setIfInBounds_toArray, List.set_cons_zero, List.set_cons_succ]
        refine one_step (i := 10) (by kernel_rfl) rfl (fun K hK => ?_)
        have hc10 := HBX5.out.cells
        have hf10 := HBX5.out.free
        go_simp
        clear hc10 hf10
        obtain ⟨W10, hW10⟩ : ∃ W10, W10 = W5.setCell ⟨rb, 1, none⟩ (.slice A6 (us.length + 1) c6) := ⟨_, rfl⟩
        rw [← hW10]
        have HK10 : KeptBut FO W2 W10 := by rw [hW10]; exact HK5.trans (keptBut_set W5 ⟨rb, 1, none⟩ _ (by rw [HFO.out]; exact .inr rfl)) (fun _ _ h => h)
        have HW10 := Aside0.mk hW10
        clear hW10
        refine hK.out _ _ ?_ (fun hHeld => ?_)
        · (repeat (first | exact HK10 | exact HK5 | exact KeptBut.refl _ _ | apply keptBut_drew | apply kb_alloc))
        clear hK K
        try simp only [Act.put, List.setIfInBounds_toArray, List.set_cons_zero, List.set_cons_succ]
        refine wpAnyH_done (by kernel_rfl) ?_ _
        go_wp2
        go_ret
        have hf := HF.out
        have hW10 := HW10.out
        rw [HFA.out] at hf
        have hsz : W10.heap.size = W5.heap.size := by rw [hW10]; simp
        have hoth : ∀ j, j ≠ rb → W10.heap[j]? = W5.heap[j]? := fun j hj => by rw [hW10]; exact heap_setCell_other _ _ _ _ hj
        refine ⟨by rw [HRR.out.2, errV, hf]; rfl, ⟨.slice A6 (us.length + 1) c6, ?_⟩, ?_⟩
        · rw [HRR.out.1, hf, if_pos rfl]
          have hO := HO5.out.1
          rw [List.length_append, List.length_cons, List.length_nil] at hO
          have hoW : OwnV W10 B (.slice A6 (us.length + 1) c6) (us ++ [⟨vk, vn, vb, vss, vA, vp, vc⟩]) := ownV_at hO (fun j hj e => hoth j (by
            rcases e with e | e
            · exact HAT.out j e
            · have := HV2.out.at_; omega)) (fun u hu a e hp => by
              rcases List.mem_append.1 hu with hu | hu
              · exact HV2.out.old u hu a e hp
              · simp at hu; subst hu; exact HP.out.2.1 a e hp) (by have := HBX5.out.lt; have := HV2.out.at_; omega)
          exact ⟨by rw [hW10]; exact HBX5.out.put 1 _, hoW, HV2.out.at_, (fun e => HAT.out rb e rfl), (fun u hu a e hp => by
              rcases List.mem_append.1 hu with hu | hu
              · exact HV2.out.old u hu a e hp
              · simp at hu; subst hu; exact HP.out.2.1 a e hp)⟩
        · rw [hW10]
          exact Below.setCell HO5.out.2 (p := ⟨rb, 1, none⟩) HV2.out.at_ _
      · skip
        go_simp
        refine hK.out _ _ ?_ (fun hHeld => ?_)
        · (repeat (first | exact HK10 | exact HK5 | exact KeptBut.refl _ _ | apply keptBut_drew | apply kb_alloc))
        clear hK K
        try simp only [Act.put, List.setIfInBounds_toArray, List.set_cons_zero, List.set_cons_succ]
        refine one_step (i := 4) (by kernel_rfl) rfl (fun K hK => ?_)
        have hc4 := HV2.out.box.cells
        have hf4 := HV2.out.box.free
        have hc5 := rbox_more HV2.out.box
        go_simp
        clear hc4 hf4 hc5
        refine hK.out _ _ ?_ (fun hHeld => ?_)
        · (repeat (first | exact HK10 | exact HK5 | exact KeptBut.refl _ _ | apply keptBut_drew | apply kb_alloc))
        clear hK K
        try simp only [Act.put, List.setIfInBounds_toArray, List.set_cons_zero, List.set_cons_succ]
        refine one_step (i := 7) (by kernel_rfl) rfl (fun K hK => ?_)
        refine of_if (by rfl) ?_
        refine append_valsG (.tmp 28) (.tmp 30) rfl B (.slice A5 us.length c5) us rfl ?hown ?hbb (some ⟨W2.heap.size, 0, none⟩) [⟨vk, vn, vb, vss, vA, vp, vc⟩] 1 rfl ?hrd ?hap (by simp; omega) ?_
        case hown => exact HV2.out.own.below (by repeat (first | exact Below.refl _ _ | apply below_drew | apply below_more))
        case hbb => have := HV2.out.size; simp; omega
        case hrd =>
          have h := readsV_new W2 ⟨vk, vn, vb, vss, vA, vp, vc⟩ (HP.out.1.below HBB.out) HP.out.2.2
          dsimp only at h
          exact h.below (by repeat (first | exact Below.refl _ _ | apply bdrew))
        case hap => intro u hu a e hp e2; simp at hu; subst hu; have h1 := HP.out.2.1 a e hp; have h2 := (HV2.out.own.row.lt a.block e2).1; omega
        intro v5 W5 hO5 hb5 hg5 hat5
        have HK5 : KeptBut FO W2 W5 := (show KeptBut FO W2 _ from by (repeat (first | exact KeptBut.refl _ _ | apply keptBut_drew | apply kb_alloc))).trans (keptBut_grown (F := FO) hg5 (fun k e => by rw [HFO.out]; exact .inl e)) (fun _ _ h => h)
        have HAT : Aside0 (∀ j, v5.ownBlock = some j → j ≠ rb) := ⟨fun j e e2 => by
          subst e2
          rcases hat5 with h | h
          · rw [h] at e; exact HV2.out.ne e
          · rw [h] at e; have := HV2.out.box.lt; simp at e; omega⟩
        have HBX5 : Aside0 (RBox W5 rb #[.int .i64 k, .slice A5 us.length c5]) := ⟨HV2.out.box.at_ ((hg5.block rb (by have := HV2.out.box.lt; simp; omega) (fun e => HV2.out.ne e.symm)).trans (by first | exact heap_alloc_old W2 _ HV2.out.box.lt | rfl))⟩
        obtain ⟨A6, c6, rfl, hrd6⟩ := hO5.reads
        have HAT : Aside0 (∀ j, (Value.slice A6 (us.length + 1) c6).ownBlock = some j → j ≠ rb) := ⟨by have h := HAT.out; rw [List.length_append, List.length_cons, List.length_nil] at h; exact h⟩
        have HO5 := Aside0.mk (And.intro hO5 (HBB.out.mono hBs |>.trans ((show Below B W2 _ from by repeat (first | exact Below.refl _ _ | exact balloc (Below.refl _ _) hB2 _ | apply bdrew)).trans hb5)))
        rw [List.length_append, List.length_cons, List.length_nil]
        clear hO5 hb5 hg5 hat5 hrd6
        refine hK.out _ _ ?_ (fun hHeld => ?_)
        · (repeat (first | exact HK10 | exact HK5 | exact KeptBut.refl _ _ | apply keptBut_drew | apply kb_alloc))
        clear hK K
        try simp only [Act.put, List.setIfInBounds_toArray, List.set_cons_zero, List.set_cons_succ]
        refine take_in (i := 8) (v := ?v8cq) rfl (by kernel_rfl) (by kernel_rfl) (by kernel_rfl) (fun _ _ _ h => h) (by rfl) ?hy8cq (by assumption) ?_
        case hy8cq => intro WW hSw; (try dsimp only at hSw); go_simp; try with_reducible rfl
        try simp only [Act.put, List.setIfInBounds_toArray, List.set_cons_zero, List.set_cons_succ]
        refine take_in (i := 9) (v := ?v9cq) rfl (by kernel_rfl) (by kernel_rfl) (by kernel_rfl) (fun _ _ _ h => h) (by rfl) ?hy9cq (by assumption) ?_
        case hy9cq => intro WW hSw; (try dsimp only at hSw); go_simp; try with_reducible rfl
        try simp only [Act.put, List.setIfInBounds_toArray, List.set_cons_zero, List.set_cons_succ]
        refine one_step (i := 10) (by kernel_rfl) rfl (fun K hK => ?_)
        have hc10 := HBX5.out.cells
        have hf10 := HBX5.out.free
        go_simp
        clear hc10 hf10
        obtain ⟨W10, hW10⟩ : ∃ W10, W10 = W5.setCell ⟨rb, 1, none⟩ (.slice A6 (us.length + 1) c6) := ⟨_, rfl⟩
        rw [← hW10]
        have HK10 : KeptBut FO W2 W10 := by rw [hW10]; exact HK5.trans (keptBut_set W5 ⟨rb, 1, none⟩ _ (by rw [HFO.out]; exact .inr rfl)) (fun _ _ h => h)
        have HW10 := Aside0.mk hW10
        clear hW10
        refine hK.out _ _ ?_ (fun hHeld => ?_)
        · (repeat (first | exact HK10 | exact HK5 | exact KeptBut.refl _ _ | apply keptBut_drew | apply kb_alloc))
        clear hK K
        try simp only [Act.put, List.setIfInBounds_toArray, List.set_cons_zero, List.set_cons_succ]
        refine wpAnyH_done (by kernel_rfl) ?_ _
        go_wp2
        go_ret
        have hf := HF.out
        have hW10 := HW10.out
        rw [HFA.out] at hf
        have hsz : W10.heap.size = W5.heap.size := by rw [hW10]; simp
        have hoth : ∀ j, j ≠ rb → W10.heap[j]? = W5.heap[j]? := fun j hj => by rw [hW10]; exact heap_setCell_other _ _ _ _ hj
        refine ⟨by rw [HRR.out.2, errV, hf]; rfl, ⟨.slice A6 (us.length + 1) c6, ?_⟩, ?_⟩
        · rw [HRR.out.1, hf, if_pos rfl]
          have hO := HO5.out.1
          rw [List.length_append, List.length_cons, List.length_nil] at hO
          have hoW : OwnV W10 B (.slice A6 (us.length + 1) c6) (us ++ [⟨vk, vn, vb, vss, vA, vp, vc⟩]) := ownV_at hO (fun j hj e => hoth j (by
            rcases e with e | e
            · exact HAT.out j e
            · have := HV2.out.at_; omega)) (fun u hu a e hp => by
              rcases List.mem_append.1 hu with hu | hu
              · exact HV2.out.old u hu a e hp
              · simp at hu; subst hu; exact HP.out.2.1 a e hp) (by have := HBX5.out.lt; have := HV2.out.at_; omega)
          exact ⟨by rw [hW10]; exact HBX5.out.put 1 _, hoW, HV2.out.at_, (fun e => HAT.out rb e rfl), (fun u hu a e hp => by
              rcases List.mem_append.1 hu with hu | hu
              · exact HV2.out.old u hu a e hp
              · simp at hu; subst hu; exact HP.out.2.1 a e hp)⟩
        · rw [hW10]
          exact Below.setCell HO5.out.2 (p := ⟨rb, 1, none⟩) HV2.out.at_ _
    · have hvk : (vk != k) = true := by simp [hk]
      by_cases h0 : vk = 0
      · have hv0 : (vk != 0) = false := by simp [h0]
        have HFA : Aside0 ((true && (vk == k || vk == 0)) = true) := ⟨by simp [h0]⟩
        clear hk h0
        go_upto_region 2 with (fail)
        refine wp_region_held_drew (S := (fun WW => Below W2.heap.size W2 WW)) (by kernel_rfl) ?_ (fun hHeld => ?_)
        · first | exact Below.refl _ _ | exact below_drew (Below.refl _ _)
        refine take_in (i := 0) (v := ?v0d) rfl (by kernel_rfl) (by kernel_rfl) (by kernel_rfl) (fun _ _ _ h => h) (by rfl) ?hy0d (by assumption) ?_
        case hy0d => intro WW hSw; (try dsimp only at hSw); go_simp; try with_reducible rfl
        try simp only [Act.put, List.setIfInBounds_toArray, List.set_cons_zero, List.set_cons_succ]
        refine take_in (i := 1) (v := .bool false) rfl (by kernel_rfl) (by kernel_rfl) (by kernel_rfl) (fun _ _ _ h => h) (by rfl) ?hy1d (by assumption) ?_
        case hy1d => intro WW hSw; (try dsimp only at hSw); go_simp; try with_reducible rfl
        try simp only [Act.put, List.setIfInBounds_toArray, List.set_cons_zero, List.set_cons_succ]
        refine take_in (i := 2) (v := .bool false) rfl (by kernel_rfl) (by kernel_rfl) (by kernel_rfl) (fun _ _ _ h => h) (by rfl) ?hy2d (by assumption) ?_
        case hy2d => intro WW hSw; (try dsimp only at hSw); go_simp; try with_reducible rfl
        try simp only [Act.put, List.setIfInBounds_toArray, List.set_cons_zero, List.set_cons_succ]
        refine take_in (i := 3) (v := ?v3d) rfl (by kernel_rfl) (by kernel_rfl) (by kernel_rfl) (fun _ _ _ h => h) (by rfl) ?hy3d (by assumption) ?_
        case hy3d => intro WW hSw; (try dsimp only at hSw); go_simp; try with_reducible rfl
        try simp only [Act.put, List.setIfInBounds_toArray, List.set_cons_zero, List.set_cons_succ]
        refine take_in (i := 4) (v := .int .i64 vk) rfl (by kernel_rfl) (by kernel_rfl) (by kernel_rfl) (fun _ _ _ h => h) (by rfl) ?hy4d (by assumption) ?_
        case hy4d => intro WW hSw; have h1 := HLX.out WW hSw; have h2 := HLR.out WW hSw; go_simp; try with_reducible rfl
        try simp only [Act.put, List.setIfInBounds_toArray, List.set_cons_zero, List.set_cons_succ]
        refine take_in (i := 5) (v := ?v5d) rfl (by kernel_rfl) (by kernel_rfl) (by kernel_rfl) (fun _ _ _ h => h) (by rfl) ?hy5d (by assumption) ?_
        case hy5d => intro WW hSw; (try dsimp only at hSw); go_simp; try with_reducible rfl
        try simp only [Act.put, List.setIfInBounds_toArray, List.set_cons_zero, List.set_cons_succ]
        refine take_in (i := 6) (v := ?v6d) rfl (by kernel_rfl) (by kernel_rfl) (by kernel_rfl) (fun _ _ _ h => h) (by rfl) ?hy6d (by assumption) ?_
        case hy6d => intro WW hSw; (try dsimp only at hSw); go_simp; try with_reducible rfl
        try simp only [Act.put, List.setIfInBounds_toArray, List.set_cons_zero, List.set_cons_succ]
        refine take_in (i := 7) (v := ?v7d) rfl (by kernel_rfl) (by kernel_rfl) (by kernel_rfl) (fun _ _ _ h => h) (by rfl) ?hy7d (by assumption) ?_
        case hy7d => intro WW hSw; (try dsimp only at hSw); go_simp; try with_reducible rfl
        try simp only [Act.put, List.setIfInBounds_toArray, List.set_cons_zero, List.set_cons_succ]
        refine take_in (i := 8) (v := .int .i64 k) rfl (by kernel_rfl) (by kernel_rfl) (by kernel_rfl) (fun _ _ _ h => h) (by rfl) ?hy8d (by assumption) ?_
        case hy8d => intro WW hSw; have h1 := HLX.out WW hSw; have h2 := HLR.out WW hSw; go_simp; try with_reducible rfl
        try simp only [Act.put, List.setIfInBounds_toArray, List.set_cons_zero, List.set_cons_succ]
        refine take_in (i := 9) (v := .bool true) rfl (by kernel_rfl) (by kernel_rfl) (by kernel_rfl) (fun _ _ _ h => h) (by rfl) ?hy9d (by assumption) ?_
        case hy9d => intro WW hSw; have hh := hvk; go_simp; try with_reducible rfl
        try simp only [Act.put, List.setIfInBounds_toArray, List.set_cons_zero, List.set_cons_succ]
        refine take_in (i := 10) (v := .bool true) rfl (by kernel_rfl) (by kernel_rfl) (by kernel_rfl) (fun _ _ _ h => h) (by rfl) ?hy10d (by assumption) ?_
        case hy10d => intro WW hSw; (try dsimp only at hSw); go_simp; try with_reducible rfl
        try simp only [Act.put, List.setIfInBounds_toArray, List.set_cons_zero, List.set_cons_succ]
        refine take_in (i := 11) (v := ?v11d) rfl (by kernel_rfl) (by kernel_rfl) (by kernel_rfl) (fun _ _ _ h => h) (by rfl) ?hy11d (by assumption) ?_
        case hy11d => intro WW hSw; (try dsimp only at hSw); go_simp; try with_reducible rfl
        try simp only [Act.put, List.setIfInBounds_toArray, List.set_cons_zero, List.set_cons_succ]
        refine take_in (i := 12) (v := .int .i64 vk) rfl (by kernel_rfl) (by kernel_rfl) (by kernel_rfl) (fun _ _ _ h => h) (by rfl) ?hy12d (by assumption) ?_
        case hy12d => intro WW hSw; have h1 := HLX.out WW hSw; have h2 := HLR.out WW hSw; go_simp; try with_reducible rfl
        try simp only [Act.put, List.setIfInBounds_toArray, List.set_cons_zero, List.set_cons_succ]
        refine take_in (i := 13) (v := .bool false) rfl (by kernel_rfl) (by kernel_rfl) (by kernel_rfl) (fun _ _ _ h => h) (by rfl) ?hy13d (by assumption) ?_
        case hy13d => intro WW hSw; have hh := hv0; go_simp; try with_reducible rfl
        try simp only [Act.put, List.setIfInBounds_toArray, List.set_cons_zero, List.set_cons_succ]
        refine take_in (i := 14) (v := .bool false) rfl (by kernel_rfl) (by kernel_rfl) (by kernel_rfl) (fun _ _ _ h => h) (by rfl) ?hy14d (by assumption) ?_
        case hy14d => intro WW hSw; (try dsimp only at hSw); go_simp; try with_reducible rfl
        try simp only [Act.put, List.setIfInBounds_toArray, List.set_cons_zero, List.set_cons_succ]
        refine take_in (i := 15) (v := .bool false) rfl (by kernel_rfl) (by kernel_rfl) (by kernel_rfl) (fun _ _ _ h => h) (by rfl) ?hy15d (by assumption) ?_
        case hy15d => intro WW hSw; (try dsimp only at hSw); go_simp; try with_reducible rfl
        try simp only [Act.put, List.setIfInBounds_toArray, List.set_cons_zero, List.set_cons_succ]
        refine wpAnyH_done (by kernel_rfl) ?_ _
        obtain ⟨FO, hFO⟩ : ∃ FO : Nat → Prop, FO = fun j => Value.ownBlock (.slice A5 us.length c5) = some j ∨ j = rb := ⟨_, rfl⟩
        have HFO := Aside0.mk hFO
        have hB2 : B ≤ W2.heap.size := HV2.out.size
        have HKX : Aside0 (∀ WW, KeptBut FO W2 WW → ∀ j, WW.cell? ⟨bx, j, none⟩ = (#[.int .i64 vk, .bool vb, .int .i64 vn, .string vss, .slice vA vp.length vc] : Array Value)[j]?) := ⟨fun WW h => (HX2.out.at_ (h.block _ HX2.out.lt (fun e => by
          rw [hFO] at e
          rcases e with e | e
          · have h1 := HBX.out; have h3 := HXN.out bx e; omega
          · exact HNE.out e))).cells⟩
        clear hFO
        go_upto_region 4 with (fail)
        refine wp_region_held_drew (S := (fun WW => KeptBut FO W2 WW)) (by kernel_rfl) ?_ (fun hHeld => ?_)
        · (repeat (first | exact HK10 | exact HK5 | exact KeptBut.refl _ _ | apply keptBut_drew | apply kb_alloc))
        refine take_in (i := 0) (v := ?v0e) rfl (by kernel_rfl) (by kernel_rfl) (by kernel_rfl) (fun _ _ _ h => h) (by rfl) ?hy0e (by assumption) ?_
        case hy0e => intro WW hSw; (try dsimp only at hSw); go_simp; try with_reducible rfl
        try simp only [Act.put, List.setIfInBounds_toArray, List.set_cons_zero, List.set_cons_succ]
        refine take_in (i := 1) (v := ?v1e) rfl (by kernel_rfl) (by kernel_rfl) (by kernel_rfl) (fun _ _ _ h => h) (by rfl) ?hy1e (by assumption) ?_
        case hy1e => intro WW hSw; (try dsimp only at hSw); go_simp; try with_reducible rfl
        try simp only [Act.put, List.setIfInBounds_toArray, List.set_cons_zero, List.set_cons_succ]
        refine take_in (i := 2) (v := ?v2e) rfl (by kernel_rfl) (by kernel_rfl) (by kernel_rfl) (fun _ _ _ h => h) (by rfl) ?hy2e (by assumption) ?_
        case hy2e => intro WW hSw; (try dsimp only at hSw); go_simp; try with_reducible rfl
        try simp only [Act.put, List.setIfInBounds_toArray, List.set_cons_zero, List.set_cons_succ]
        refine take_in (i := 3) (v := ?v3e) rfl (by kernel_rfl) (by kernel_rfl) (by kernel_rfl) (fun _ _ _ h => h) (by rfl) ?hy3e (by assumption) ?_
        case hy3e => intro WW hSw; (try dsimp only at hSw); go_simp; try with_reducible rfl
        try simp only [Act.put, List.setIfInBounds_toArray, List.set_cons_zero, List.set_cons_succ]
        refine take_in (i := 5) (v := .agg #[.int .i64 vk, .bool vb, .int .i64 vn, .string vss, .slice vA vp.length vc]) rfl (by kernel_rfl) (by kernel_rfl) (by kernel_rfl) (fun _ _ _ h => h) (by rfl) ?hy5e (by assumption) ?_
        case hy5e => intro WW hSw; have h1 := HKX.out WW hSw; go_simp; try with_reducible rfl
        try simp only [Act.put, List.setIfInBounds_toArray, List.set_cons_zero, List.set_cons_succ]
        refine two_step (i := 4) (j := 6) (by kernel_rfl) rfl rfl (fun K hK => ?_) (fun K hK => ?_)
        · skip
          have hc4 := HV2.out.box.cells
          have hf4 := HV2.out.box.free
          have hc5 := rbox_more HV2.out.box
          go_simp
          clear hc4 hf4 hc5
          refine hK.out _ _ ?_ (fun hHeld => ?_)
          · (repeat (first | exact HK10 | exact HK5 | exact KeptBut.refl _ _ | apply keptBut_drew | apply kb_alloc))
          clear hK K
          try simp only [Act.put, List.setIfInBounds_toArray, List.set_cons_zero, List.set_cons_succ]
          refine one_step (i := 6) (by kernel_rfl) rfl (fun K hK => ?_)
          go_simp
          refine hK.out _ _ ?_ (fun hHeld => ?_)
          · (repeat (first | exact HK10 | exact HK5 | exact KeptBut.refl _ _ | apply keptBut_drew | apply kb_alloc))
          clear hK K
          try simp only [Act.put, List.setIfInBounds_toArray, List.set_cons_zero, List.set_cons_succ]
          refine one_step (i := 7) (by kernel_rfl) rfl (fun K hK => ?_)
          refine of_if (by rfl) ?_
          refine append_valsG (.tmp 28) (.tmp 30) rfl B (.slice A5 us.length c5) us rfl ?hown ?hbb (some ⟨W2.heap.size, 0, none⟩) [⟨vk, vn, vb, vss, vA, vp, vc⟩] 1 rfl ?hrd ?hap (by simp; omega) ?_
          case hown => exact HV2.out.own.below (by repeat (first | exact Below.refl _ _ | apply below_drew | apply below_more))
          case hbb => have := HV2.out.size; simp; omega
          case hrd =>
            have h := readsV_new W2 ⟨vk, vn, vb, vss, vA, vp, vc⟩ (HP.out.1.below HBB.out) HP.out.2.2
            dsimp only at h
            exact h.below (by repeat (first | exact Below.refl _ _ | apply bdrew))
          case hap => intro u hu a e hp e2; simp at hu; subst hu; have h1 := HP.out.2.1 a e hp; have h2 := (HV2.out.own.row.lt a.block e2).1; omega
          intro v5 W5 hO5 hb5 hg5 hat5
          have HK5 : KeptBut FO W2 W5 := (show KeptBut FO W2 _ from by (repeat (first | exact KeptBut.refl _ _ | apply keptBut_drew | apply kb_alloc))).trans (keptBut_grown (F := FO) hg5 (fun k e => by rw [HFO.out]; exact .inl e)) (fun _ _ h => h)
          have HAT : Aside0 (∀ j, v5.ownBlock = some j → j ≠ rb) := ⟨fun j e e2 => by
            subst e2
            rcases hat5 with h | h
            · rw [h] at e; exact HV2.out.ne e
            · rw [h] at e; have := HV2.out.box.lt; simp at e; omega⟩
          have HBX5 : Aside0 (RBox W5 rb #[.int .i64 k, .slice A5 us.length c5]) := ⟨HV2.out.box.at_ ((hg5.block rb (by have := HV2.out.box.lt; simp; omega) (fun e => HV2.out.ne e.symm)).trans (by first | exact heap_alloc_old W2 _ HV2.out.box.lt | rfl))⟩
          obtain ⟨A6, c6, rfl, hrd6⟩ := hO5.reads
          have HAT : Aside0 (∀ j, (Value.slice A6 (us.length + 1) c6).ownBlock = some j → j ≠ rb) := ⟨by have h := HAT.out; rw [List.length_append, List.length_cons, List.length_nil] at h; exact h⟩
          have HO5 := Aside0.mk (And.intro hO5 (HBB.out.mono hBs |>.trans ((show Below B W2 _ from by repeat (first | exact Below.refl _ _ | exact balloc (Below.refl _ _) hB2 _ | apply bdrew)).trans hb5)))
          rw [List.length_append, List.length_cons, List.length_nil]
          clear hO5 hb5 hg5 hat5 hrd6
          refine hK.out _ _ ?_ (fun hHeld => ?_)
          · (repeat (first | exact HK10 | exact HK5 | exact KeptBut.refl _ _ | apply keptBut_drew | apply kb_alloc))
          clear hK K
          try simp only [Act.put, List.setIfInBounds_toArray, List.set_cons_zero, List.set_cons_succ]
          refine take_in (i := 8) (v := ?v8ep) rfl (by kernel_rfl) (by kernel_rfl) (by kernel_rfl) (fun _ _ _ h => h) (by rfl) ?hy8ep (by assumption) ?_
          case hy8ep => intro WW hSw; (try dsimp only at hSw); go_simp; try with_reducible rfl
          try simp only [Act.put, List.setIfInBounds_toArray, List.set_cons_zero, List.set_cons_succ]
          refine take_in (i := 9) (v := ?v9ep) rfl (by kernel_rfl) (by kernel_rfl) (by kernel_rfl) (fun _ _ _ h => h) (by rfl) ?hy9ep (by assumption) ?_
          case hy9ep => intro WW hSw; (try dsimp only at hSw); go_simp; try with_reducible rfl
          try simp only [Act.put, List.setIfInBounds_toArray, List.set_cons_zero, List.set_cons_succ]
          refine one_step (i := 10) (by kernel_rfl) rfl (fun K hK => ?_)
          have hc10 := HBX5.out.cells
          have hf10 := HBX5.out.free
          go_simp
          clear hc10 hf10
          obtain ⟨W10, hW10⟩ : ∃ W10, W10 = W5.setCell ⟨rb, 1, none⟩ (.slice A6 (us.length + 1) c6) := ⟨_, rfl⟩
          rw [← hW10]
          have HK10 : KeptBut FO W2 W10 := by rw [hW10]; exact HK5.trans (keptBut_set W5 ⟨rb, 1, none⟩ _ (by rw [HFO.out]; exact .inr rfl)) (fun _ _ h => h)
          have HW10 := Aside0.mk hW10
          clear hW10
          refine hK.out _ _ ?_ (fun hHeld => ?_)
          · (repeat (first | exact HK10 | exact HK5 | exact KeptBut.refl _ _ | apply keptBut_drew | apply kb_alloc))
          clear hK K
          try simp only [Act.put, List.setIfInBounds_toArray, List.set_cons_zero, List.set_cons_succ]
          refine wpAnyH_done (by kernel_rfl) ?_ _
          go_wp2
          go_ret
          have hf := HF.out
          have hW10 := HW10.out
          rw [HFA.out] at hf
          have hsz : W10.heap.size = W5.heap.size := by rw [hW10]; simp
          have hoth : ∀ j, j ≠ rb → W10.heap[j]? = W5.heap[j]? := fun j hj => by rw [hW10]; exact heap_setCell_other _ _ _ _ hj
          refine ⟨by rw [HRR.out.2, errV, hf]; rfl, ⟨.slice A6 (us.length + 1) c6, ?_⟩, ?_⟩
          · rw [HRR.out.1, hf, if_pos rfl]
            have hO := HO5.out.1
            rw [List.length_append, List.length_cons, List.length_nil] at hO
            have hoW : OwnV W10 B (.slice A6 (us.length + 1) c6) (us ++ [⟨vk, vn, vb, vss, vA, vp, vc⟩]) := ownV_at hO (fun j hj e => hoth j (by
              rcases e with e | e
              · exact HAT.out j e
              · have := HV2.out.at_; omega)) (fun u hu a e hp => by
                rcases List.mem_append.1 hu with hu | hu
                · exact HV2.out.old u hu a e hp
                · simp at hu; subst hu; exact HP.out.2.1 a e hp) (by have := HBX5.out.lt; have := HV2.out.at_; omega)
            exact ⟨by rw [hW10]; exact HBX5.out.put 1 _, hoW, HV2.out.at_, (fun e => HAT.out rb e rfl), (fun u hu a e hp => by
                rcases List.mem_append.1 hu with hu | hu
                · exact HV2.out.old u hu a e hp
                · simp at hu; subst hu; exact HP.out.2.1 a e hp)⟩
          · rw [hW10]
            exact Below.setCell HO5.out.2 (p := ⟨rb, 1, none⟩) HV2.out.at_ _
        · skip
          go_simp
          refine hK.out _ _ ?_ (fun hHeld => ?_)
          · (repeat (first | exact HK10 | exact HK5 | exact KeptBut.refl _ _ | apply keptBut_drew | apply kb_alloc))
          clear hK K
          try simp only [Act.put, List.setIfInBounds_toArray, List.set_cons_zero, List.set_cons_succ]
          refine one_step (i := 4) (by kernel_rfl) rfl (fun K hK => ?_)
          have hc4 := HV2.out.box.cells
          have hf4 := HV2.out.box.free
          have hc5 := rbox_more HV2.out.box
          go_simp
          clear hc4 hf4 hc5
          refine hK.out _ _ ?_ (fun hHeld => ?_)
          · (repeat (first | exact HK10 | exact HK5 | exact KeptBut.refl _ _ | apply keptBut_drew | apply kb_alloc))
          clear hK K
          try simp only [Act.put, List.setIfInBounds_toArray, List.set_cons_zero, List.set_cons_succ]
          refine one_step (i := 7) (by kernel_rfl) rfl (fun K hK => ?_)
          refine of_if (by rfl) ?_
          refine append_valsG (.tmp 28) (.tmp 30) rfl B (.slice A5 us.length c5) us rfl ?hown ?hbb (some ⟨W2.heap.size, 0, none⟩) [⟨vk, vn, vb, vss, vA, vp, vc⟩] 1 rfl ?hrd ?hap (by simp; omega) ?_
          case hown => exact HV2.out.own.below (by repeat (first | exact Below.refl _ _ | apply below_drew | apply below_more))
          case hbb => have := HV2.out.size; simp; omega
          case hrd =>
            have h := readsV_new W2 ⟨vk, vn, vb, vss, vA, vp, vc⟩ (HP.out.1.below HBB.out) HP.out.2.2
            dsimp only at h
            exact h.below (by repeat (first | exact Below.refl _ _ | apply bdrew))
          case hap => intro u hu a e hp e2; simp at hu; subst hu; have h1 := HP.out.2.1 a e hp; have h2 := (HV2.out.own.row.lt a.block e2).1; omega
          intro v5 W5 hO5 hb5 hg5 hat5
          have HK5 : KeptBut FO W2 W5 := (show KeptBut FO W2 _ from by (repeat (first | exact KeptBut.refl _ _ | apply keptBut_drew | apply kb_alloc))).trans (keptBut_grown (F := FO) hg5 (fun k e => by rw [HFO.out]; exact .inl e)) (fun _ _ h => h)
          have HAT : Aside0 (∀ j, v5.ownBlock = some j → j ≠ rb) := ⟨fun j e e2 => by
            subst e2
            rcases hat5 with h | h
            · rw [h] at e; exact HV2.out.ne e
            · rw [h] at e; have := HV2.out.box.lt; simp at e; omega⟩
          have HBX5 : Aside0 (RBox W5 rb #[.int .i64 k, .slice A5 us.length c5]) := ⟨HV2.out.box.at_ ((hg5.block rb (by have := HV2.out.box.lt; simp; omega) (fun e => HV2.out.ne e.symm)).trans (by first | exact heap_alloc_old W2 _ HV2.out.box.lt | rfl))⟩
          obtain ⟨A6, c6, rfl, hrd6⟩ := hO5.reads
          have HAT : Aside0 (∀ j, (Value.slice A6 (us.length + 1) c6).ownBlock = some j → j ≠ rb) := ⟨by have h := HAT.out; rw [List.length_append, List.length_cons, List.length_nil] at h; exact h⟩
          have HO5 := Aside0.mk (And.intro hO5 (HBB.out.mono hBs |>.trans ((show Below B W2 _ from by repeat (first | exact Below.refl _ _ | exact balloc (Below.refl _ _) hB2 _ | apply bdrew)).trans hb5)))
          rw [List.length_append, List.length_cons, List.length_nil]
          clear hO5 hb5 hg5 hat5 hrd6
          refine hK.out _ _ ?_ (fun hHeld => ?_)
          · (repeat (first | exact HK10 | exact HK5 | exact KeptBut.refl _ _ | apply keptBut_drew | apply kb_alloc))
          clear hK K
          try simp only [Act.put, List.setIfInBounds_toArray, List.set_cons_zero, List.set_cons_succ]
          refine take_in (i := 8) (v := ?v8eq) rfl (by kernel_rfl) (by kernel_rfl) (by kernel_rfl) (fun _ _ _ h => h) (by rfl) ?hy8eq (by assumption) ?_
          case hy8eq => intro WW hSw; (try dsimp only at hSw); go_simp; try with_reducible rfl
          try simp only [Act.put, List.setIfInBounds_toArray, List.set_cons_zero, List.set_cons_succ]
          refine take_in (i := 9) (v := ?v9eq) rfl (by kernel_rfl) (by kernel_rfl) (by kernel_rfl) (fun _ _ _ h => h) (by rfl) ?hy9eq (by assumption) ?_
          case hy9eq => intro WW hSw; (try dsimp only at hSw); go_simp; try with_reducible rfl
          try simp only [Act.put, List.setIfInBounds_toArray, List.set_cons_zero, List.set_cons_succ]
          refine one_step (i := 10) (by kernel_rfl) rfl (fun K hK => ?_)
          have hc10 := HBX5.out.cells
          have hf10 := HBX5.out.free
          go_simp
          clear hc10 hf10
          obtain ⟨W10, hW10⟩ : ∃ W10, W10 = W5.setCell ⟨rb, 1, none⟩ (.slice A6 (us.length + 1) c6) := ⟨_, rfl⟩
          rw [← hW10]
          have HK10 : KeptBut FO W2 W10 := by rw [hW10]; exact HK5.trans (keptBut_set W5 ⟨rb, 1, none⟩ _ (by rw [HFO.out]; exact .inr rfl)) (fun _ _ h => h)
          have HW10 := Aside0.mk hW10
          clear hW10
          refine hK.out _ _ ?_ (fun hHeld => ?_)
          · (repeat (first | exact HK10 | exact HK5 | exact KeptBut.refl _ _ | apply keptBut_drew | apply kb_alloc))
          clear hK K
          try simp only [Act.put, List.setIfInBounds_toArray, List.set_cons_zero, List.set_cons_succ]
          refine wpAnyH_done (by kernel_rfl) ?_ _
          go_wp2
          go_ret
          have hf := HF.out
          have hW10 := HW10.out
          rw [HFA.out] at hf
          have hsz : W10.heap.size = W5.heap.size := by rw [hW10]; simp
          have hoth : ∀ j, j ≠ rb → W10.heap[j]? = W5.heap[j]? := fun j hj => by rw [hW10]; exact heap_setCell_other _ _ _ _ hj
          refine ⟨by rw [HRR.out.2, errV, hf]; rfl, ⟨.slice A6 (us.length + 1) c6, ?_⟩, ?_⟩
          · rw [HRR.out.1, hf, if_pos rfl]
            have hO := HO5.out.1
            rw [List.length_append, List.length_cons, List.length_nil] at hO
            have hoW : OwnV W10 B (.slice A6 (us.length + 1) c6) (us ++ [⟨vk, vn, vb, vss, vA, vp, vc⟩]) := ownV_at hO (fun j hj e => hoth j (by
              rcases e with e | e
              · exact HAT.out j e
              · have := HV2.out.at_; omega)) (fun u hu a e hp => by
                rcases List.mem_append.1 hu with hu | hu
                · exact HV2.out.old u hu a e hp
                · simp at hu; subst hu; exact HP.out.2.1 a e hp) (by have := HBX5.out.lt; have := HV2.out.at_; omega)
            exact ⟨by rw [hW10]; exact HBX5.out.put 1 _, hoW, HV2.out.at_, (fun e => HAT.out rb e rfl), (fun u hu a e hp => by
                rcases List.mem_append.1 hu with hu | hu
                · exact HV2.out.old u hu a e hp
                · simp at hu; subst hu; exact HP.out.2.1 a e hp)⟩
          · rw [hW10]
            exact Below.setCell HO5.out.2 (p := ⟨rb, 1, none⟩) HV2.out.at_ _
      · have hv0 : (vk != 0) = true := by simp [h0]
        have HFA : Aside0 ((true && (vk == k || vk == 0)) = false) := ⟨by simp [hk, h0]⟩
        clear hk h0
        go_upto_region 2 with (fail)
        refine wp_region_held_drew (S := (fun WW => Below W2.heap.size W2 WW)) (by kernel_rfl) ?_ (fun hHeld => ?_)
        · first | exact Below.refl _ _ | exact below_drew (Below.refl _ _)
        refine take_in (i := 0) (v := ?v0f) rfl (by kernel_rfl) (by kernel_rfl) (by kernel_rfl) (fun _ _ _ h => h) (by rfl) ?hy0f (by assumption) ?_
        case hy0f => intro WW hSw; (try dsimp only at hSw); go_simp; try with_reducible rfl
        try simp only [Act.put, List.setIfInBounds_toArray, List.set_cons_zero, List.set_cons_succ]
        refine take_in (i := 1) (v := .bool false) rfl (by kernel_rfl) (by kernel_rfl) (by kernel_rfl) (fun _ _ _ h => h) (by rfl) ?hy1f (by assumption) ?_
        case hy1f => intro WW hSw; (try dsimp only at hSw); go_simp; try with_reducible rfl
        try simp only [Act.put, List.setIfInBounds_toArray, List.set_cons_zero, List.set_cons_succ]
        refine take_in (i := 2) (v := .bool false) rfl (by kernel_rfl) (by kernel_rfl) (by kernel_rfl) (fun _ _ _ h => h) (by rfl) ?hy2f (by assumption) ?_
        case hy2f => intro WW hSw; (try dsimp only at hSw); go_simp; try with_reducible rfl
        try simp only [Act.put, List.setIfInBounds_toArray, List.set_cons_zero, List.set_cons_succ]
        refine take_in (i := 3) (v := ?v3f) rfl (by kernel_rfl) (by kernel_rfl) (by kernel_rfl) (fun _ _ _ h => h) (by rfl) ?hy3f (by assumption) ?_
        case hy3f => intro WW hSw; (try dsimp only at hSw); go_simp; try with_reducible rfl
        try simp only [Act.put, List.setIfInBounds_toArray, List.set_cons_zero, List.set_cons_succ]
        refine take_in (i := 4) (v := .int .i64 vk) rfl (by kernel_rfl) (by kernel_rfl) (by kernel_rfl) (fun _ _ _ h => h) (by rfl) ?hy4f (by assumption) ?_
        case hy4f => intro WW hSw; have h1 := HLX.out WW hSw; have h2 := HLR.out WW hSw; go_simp; try with_reducible rfl
        try simp only [Act.put, List.setIfInBounds_toArray, List.set_cons_zero, List.set_cons_succ]
        refine take_in (i := 5) (v := ?v5f) rfl (by kernel_rfl) (by kernel_rfl) (by kernel_rfl) (fun _ _ _ h => h) (by rfl) ?hy5f (by assumption) ?_
        case hy5f => intro WW hSw; (try dsimp only at hSw); go_simp; try with_reducible rfl
        try simp only [Act.put, List.setIfInBounds_toArray, List.set_cons_zero, List.set_cons_succ]
        refine take_in (i := 6) (v := ?v6f) rfl (by kernel_rfl) (by kernel_rfl) (by kernel_rfl) (fun _ _ _ h => h) (by rfl) ?hy6f (by assumption) ?_
        case hy6f => intro WW hSw; (try dsimp only at hSw); go_simp; try with_reducible rfl
        try simp only [Act.put, List.setIfInBounds_toArray, List.set_cons_zero, List.set_cons_succ]
        refine take_in (i := 7) (v := ?v7f) rfl (by kernel_rfl) (by kernel_rfl) (by kernel_rfl) (fun _ _ _ h => h) (by rfl) ?hy7f (by assumption) ?_
        case hy7f => intro WW hSw; (try dsimp only at hSw); go_simp; try with_reducible rfl
        try simp only [Act.put, List.setIfInBounds_toArray, List.set_cons_zero, List.set_cons_succ]
        refine take_in (i := 8) (v := .int .i64 k) rfl (by kernel_rfl) (by kernel_rfl) (by kernel_rfl) (fun _ _ _ h => h) (by rfl) ?hy8f (by assumption) ?_
        case hy8f => intro WW hSw; have h1 := HLX.out WW hSw; have h2 := HLR.out WW hSw; go_simp; try with_reducible rfl
        try simp only [Act.put, List.setIfInBounds_toArray, List.set_cons_zero, List.set_cons_succ]
        refine take_in (i := 9) (v := .bool true) rfl (by kernel_rfl) (by kernel_rfl) (by kernel_rfl) (fun _ _ _ h => h) (by rfl) ?hy9f (by assumption) ?_
        case hy9f => intro WW hSw; have hh := hvk; go_simp; try with_reducible rfl
        try simp only [Act.put, List.setIfInBounds_toArray, List.set_cons_zero, List.set_cons_succ]
        refine take_in (i := 10) (v := .bool true) rfl (by kernel_rfl) (by kernel_rfl) (by kernel_rfl) (fun _ _ _ h => h) (by rfl) ?hy10f (by assumption) ?_
        case hy10f => intro WW hSw; (try dsimp only at hSw); go_simp; try with_reducible rfl
        try simp only [Act.put, List.setIfInBounds_toArray, List.set_cons_zero, List.set_cons_succ]
        refine take_in (i := 11) (v := ?v11f) rfl (by kernel_rfl) (by kernel_rfl) (by kernel_rfl) (fun _ _ _ h => h) (by rfl) ?hy11f (by assumption) ?_
        case hy11f => intro WW hSw; (try dsimp only at hSw); go_simp; try with_reducible rfl
        try simp only [Act.put, List.setIfInBounds_toArray, List.set_cons_zero, List.set_cons_succ]
        refine take_in (i := 12) (v := .int .i64 vk) rfl (by kernel_rfl) (by kernel_rfl) (by kernel_rfl) (fun _ _ _ h => h) (by rfl) ?hy12f (by assumption) ?_
        case hy12f => intro WW hSw; have h1 := HLX.out WW hSw; have h2 := HLR.out WW hSw; go_simp; try with_reducible rfl
        try simp only [Act.put, List.setIfInBounds_toArray, List.set_cons_zero, List.set_cons_succ]
        refine take_in (i := 13) (v := .bool true) rfl (by kernel_rfl) (by kernel_rfl) (by kernel_rfl) (fun _ _ _ h => h) (by rfl) ?hy13f (by assumption) ?_
        case hy13f => intro WW hSw; have hh := hv0; go_simp; try with_reducible rfl
        try simp only [Act.put, List.setIfInBounds_toArray, List.set_cons_zero, List.set_cons_succ]
        refine take_in (i := 14) (v := .bool true) rfl (by kernel_rfl) (by kernel_rfl) (by kernel_rfl) (fun _ _ _ h => h) (by rfl) ?hy14f (by assumption) ?_
        case hy14f => intro WW hSw; (try dsimp only at hSw); go_simp; try with_reducible rfl
        try simp only [Act.put, List.setIfInBounds_toArray, List.set_cons_zero, List.set_cons_succ]
        refine take_in (i := 15) (v := .bool true) rfl (by kernel_rfl) (by kernel_rfl) (by kernel_rfl) (fun _ _ _ h => h) (by rfl) ?hy15f (by assumption) ?_
        case hy15f => intro WW hSw; (try dsimp only at hSw); go_simp; try with_reducible rfl
        try simp only [Act.put, List.setIfInBounds_toArray, List.set_cons_zero, List.set_cons_succ]
        refine wpAnyH_done (by kernel_rfl) ?_ _
        go_wp2
        go_ret
        have hf := HF.out
        rw [HFA.out] at hf
        exact ⟨by rw [HRR.out.2, errV, hf]; rfl, ⟨_, by rw [HRR.out.1, hf]; exact HV2.out.below (by repeat (first | exact Below.refl _ _ | apply below_drew))⟩, (by repeat (first | exact HBB.out.mono hBs | apply bdrew))⟩
open Go.RowKit Go.Maps

theorem fits_take {k : Int} {vs : List V5} {j q : Nat} (hj : j ≤ q) (h : ∀ v ∈ vs.take q, fitsV k v = true) : ∀ v ∈ vs.take j, fitsV k v = true := fun v hv => h v ((List.take_subset_take_left vs hj) hv)
theorem take_snoc (vs : List V5) (j : Nat) (h : j < vs.length) : vs.take (j + 1) = vs.take j ++ [vs.getD j V5.zero] := by
  rw [List.take_add_one, List.getD_eq_getElem?_getD, List.getElem?_eq_getElem h]
  rfl
set_option maxRecDepth 100000 in
set_option maxHeartbeats 6400000 in
theorem rof_ok (k : Int) (A : Option Addr) (vs : List V5) (c : Nat) (w : World) (hk : 1 ≤ k ∧ k ≤ 6) (hr : ReadsV w A vs) (hT : Lib.Utf8Tabs 0 1 w) (hss : ∀ v ∈ vs, v.s.size ≤ 9223372036854775807) (hN : vs.length ≤ 10000000000) (hf : ∀ v ∈ vs, fitsV k v = true) :
    Calls Tryd.prog 10 #[.int .i64 k, .slice A vs.length c] w fun e w' => e = .returned (.tuple #[.pointer (some ⟨w.heap.size, 0, none⟩), .int .i64 0]) ∧ (∃ rv, RV w' w.heap.size k w.heap.size vs rv) ∧ Below w.heap.size w w' := by
  obtain ⟨m, hm⟩ : ∃ m, m = vs.length := ⟨_, rfl⟩
  rw [← hm] at hN ⊢
  have hn := rnew_ok k w hk
  have HM := Aside0.mk hm
  have HR := Aside0.mk hr
  have HF := Aside0.mk hf
  have HTT := Aside0.mk (And.intro hT hss)
  have hN9 : (m : Int) ≤ 10000000000 := by omega
  clear hr hm hf hk hT hss
  go_enter Tryd.func10, Tryd.ntmps10
  go_wp2_with (go_at_call 8; go_loud (refine hn.mono ?_))
  first
    | (intro e W1 he hV1 hb1; subst he)
    | rintro e W1 ⟨rfl, hV1, hb1⟩
  clear hn
  go_wp2
  go_loopg [7] (m + 1) (fun gg s7 wr => ∃ j : Nat, j ≤ m ∧ m < gg + j ∧ s7 = .int .i64 j ∧ (∃ rv, RV wr w.heap.size k w.heap.size (vs.take j) rv) ∧ Below w.heap.size w wr)
  case atStart => exact ⟨0, by omega, by omega, rfl, ⟨_, hV1⟩, hb1⟩
  case round =>
    obtain ⟨j, hj, hg, rfl, ⟨rv, hV⟩, HB⟩ := hrel
    clear hV1 hb1
    by_cases hlt : j < m
    · skip
      have hlti : (j : Int) < (m : Int) := by omega
      have hj0 : (0 : Int) ≤ (j : Int) := by omega
      have hjm := HM.out
      have hjl : j < vs.length := by omega
      obtain ⟨ad, rfl, hh⟩ := HR.out.row j hjl
      have hmem : vs.getD j V5.zero ∈ vs := by rw [List.getD_eq_getElem?_getD, List.getElem?_eq_getElem hjl]; exact List.getElem_mem _
      have hp := HR.out.path _ hmem
      have hss := HTT.out.2 _ hmem
      have hnm := HR.out.num _ hmem
      have hfit := HF.out _ hmem
      have hsn := take_snoc vs j hjl
      have hln : (vs.take j).length ≤ 100000000000 := by rw [List.length_take]; omega
      generalize vs.getD j V5.zero = v at hh hp hss hnm hfit hsn
      have happ := rapp_any k w.heap.size w.heap.size (vs.take j) rv v wr hV (Utf8Tabs_below HTT.out.1 HB) (hp.below HB) hss (fun a e hpp => readsI_lt (e ▸ hp) hpp) hln hnm
      rw [errV, hfit, if_pos rfl, if_pos rfl] at happ
      obtain ⟨vk, vn, vb, vss, vA, vp, vc⟩ := v
      obtain ⟨hb, hsp, c0, c1, c2, c3, c4⟩ := hh
      simp only at c0 c1 c2 c3 c4
      rw [← HB.cell hb] at c0
      rw [← HB.cell (p := ⟨(ad.add (j * 5)).block, (ad.add (j * 5)).off + 1, none⟩) hb] at c1
      rw [← HB.cell (p := ⟨(ad.add (j * 5)).block, (ad.add (j * 5)).off + 2, none⟩) hb] at c2
      rw [← HB.cell (p := ⟨(ad.add (j * 5)).block, (ad.add (j * 5)).off + 3, none⟩) hb] at c3
      rw [← HB.cell (p := ⟨(ad.add (j * 5)).block, (ad.add (j * 5)).off + 4, none⟩) hb] at c4
      have hbl : (ad.add (j * 5)).block < wr.heap.size := by have := HB.size; omega
      unfold V5.val at happ
      have HAPP := Aside0.mk happ
      have HBX := Aside0.mk HB
      have HG := Aside0.mk (And.intro hj hg)
      clear hp hfit hsp hjm hjl hmem hV HB hss hnm hln happ hj hg
      go_wp2_with (go_at_call 13; go_loud (refine HAPP.out.mono ?_))
      first
        | (intro e W2 he rv2 hV2 hb2; subst he)
        | rintro e W2 ⟨rfl, ⟨rv2, hV2⟩, hb2⟩
      have HB2 := HBX.out.trans hb2
      rw [← hsn] at hV2
      go_wp2
      go_roundg (gk - 1)
      case measure => have := HG.out; omega
      case rel => exact ⟨j + 1, by omega, by have := HG.out; omega, by go_num, ⟨rv2, hV2⟩, HB2⟩
    · obtain rfl : j = m := by omega
      have hjj : ¬ (j : Int) < (j : Int) := by omega
      have e : vs.take j = vs := List.take_of_length_le (by have := HM.out; omega)
      rw [e] at hV
      go_wp2
      go_ret2
      exact ⟨rfl, ⟨rv, hV⟩, HB⟩
set_option maxRecDepth 100000 in
set_option maxHeartbeats 6400000 in
theorem rof_err (k : Int) (A : Option Addr) (vs : List V5) (c : Nat) (w : World) (hk : 1 ≤ k ∧ k ≤ 6) (hr : ReadsV w A vs) (hT : Lib.Utf8Tabs 0 1 w) (hss : ∀ v ∈ vs, v.s.size ≤ 9223372036854775807) (hN : vs.length ≤ 10000000000) (q : Nat) (hq : q < vs.length) (hqf : fitsV k (vs.getD q V5.zero) = false) (hf : ∀ v ∈ vs.take q, fitsV k v = true) :
    Calls Tryd.prog 10 #[.int .i64 k, .slice A vs.length c] w fun e w' => e = .returned (.tuple #[.pointer none, .int .i64 31]) ∧ Below w.heap.size w w' := by
  obtain ⟨m, hm⟩ : ∃ m, m = vs.length := ⟨_, rfl⟩
  rw [← hm] at hN hq ⊢
  have hn := rnew_ok k w hk
  have HM := Aside0.mk hm
  have HR := Aside0.mk hr
  have HF := Aside0.mk hf
  have HTT := Aside0.mk (And.intro hT hss)
  have HQ := Aside0.mk hqf
  have hN9 : (m : Int) ≤ 10000000000 := by omega
  clear hr hm hf hk hT hss hqf
  go_enter Tryd.func10, Tryd.ntmps10
  go_wp2_with (go_at_call 8; go_loud (refine hn.mono ?_))
  first
    | (intro e W1 he hV1 hb1; subst he)
    | rintro e W1 ⟨rfl, hV1, hb1⟩
  clear hn
  go_wp2
  go_loopg [7] (m + 1) (fun gg s7 wr => ∃ j : Nat, j ≤ q ∧ m < gg + j ∧ s7 = .int .i64 j ∧ (∃ rv, RV wr w.heap.size k w.heap.size (vs.take j) rv) ∧ Below w.heap.size w wr)
  case atStart => exact ⟨0, by omega, by omega, rfl, ⟨_, hV1⟩, hb1⟩
  case round =>
    obtain ⟨j, hj, hg, rfl, ⟨rv, hV⟩, HB⟩ := hrel
    clear hV1 hb1
    by_cases hjq : j < q
    · skip
      have hlti : (j : Int) < (m : Int) := by omega
      have hj0 : (0 : Int) ≤ (j : Int) := by omega
      have hjm := HM.out
      have hjl : j < vs.length := by omega
      obtain ⟨ad, rfl, hh⟩ := HR.out.row j hjl
      have hmem : vs.getD j V5.zero ∈ vs := by rw [List.getD_eq_getElem?_getD, List.getElem?_eq_getElem hjl]; exact List.getElem_mem _
      have hp := HR.out.path _ hmem
      have hss := HTT.out.2 _ hmem
      have hnm := HR.out.num _ hmem
      have hfit : fitsV k (vs.getD j V5.zero) = true := HF.out _ (by rw [List.getD_eq_getElem?_getD, List.getElem?_eq_getElem hjl]; exact List.mem_take_iff_getElem.2 ⟨j, by omega, rfl⟩)
      have hsn := take_snoc vs j hjl
      have hln : (vs.take j).length ≤ 100000000000 := by rw [List.length_take]; omega
      generalize vs.getD j V5.zero = v at hh hp hss hnm hfit hsn
      have happ := rapp_any k w.heap.size w.heap.size (vs.take j) rv v wr hV (Utf8Tabs_below HTT.out.1 HB) (hp.below HB) hss (fun a e hpp => readsI_lt (e ▸ hp) hpp) hln hnm
      rw [errV, hfit, if_pos rfl, if_pos rfl] at happ
      obtain ⟨vk, vn, vb, vss, vA, vp, vc⟩ := v
      obtain ⟨hb, hsp, c0, c1, c2, c3, c4⟩ := hh
      simp only at c0 c1 c2 c3 c4
      rw [← HB.cell hb] at c0
      rw [← HB.cell (p := ⟨(ad.add (j * 5)).block, (ad.add (j * 5)).off + 1, none⟩) hb] at c1
      rw [← HB.cell (p := ⟨(ad.add (j * 5)).block, (ad.add (j * 5)).off + 2, none⟩) hb] at c2
      rw [← HB.cell (p := ⟨(ad.add (j * 5)).block, (ad.add (j * 5)).off + 3, none⟩) hb] at c3
      rw [← HB.cell (p := ⟨(ad.add (j * 5)).block, (ad.add (j * 5)).off + 4, none⟩) hb] at c4
      have hbl : (ad.add (j * 5)).block < wr.heap.size := by have := HB.size; omega
      unfold V5.val at happ
      have HAPP := Aside0.mk happ
      have HBX := Aside0.mk HB
      have HG := Aside0.mk (And.intro hj hg)
      clear hp hfit hsp hjm hjl hmem hV HB hss hnm hln happ hj hg
      go_wp2_with (go_at_call 13; go_loud (refine HAPP.out.mono ?_))
      first
        | (intro e W2 he rv2 hV2 hb2; subst he)
        | rintro e W2 ⟨rfl, ⟨rv2, hV2⟩, hb2⟩
      have HB2 := HBX.out.trans hb2
      rw [← hsn] at hV2
      go_wp2
      go_roundg (gk - 1)
      case measure => have := HG.out; omega
      case rel => exact ⟨j + 1, by omega, by have := HG.out; omega, by go_num, ⟨rv2, hV2⟩, HB2⟩
    · obtain rfl : j = q := by omega
      have hlti : (j : Int) < (m : Int) := by omega
      have hj0 : (0 : Int) ≤ (j : Int) := by omega
      have hjm := HM.out
      have hjl : j < vs.length := by omega
      obtain ⟨ad, rfl, hh⟩ := HR.out.row j hjl
      have hmem : vs.getD j V5.zero ∈ vs := by rw [List.getD_eq_getElem?_getD, List.getElem?_eq_getElem hjl]; exact List.getElem_mem _
      have hp := HR.out.path _ hmem
      have hss := HTT.out.2 _ hmem
      have hnm := HR.out.num _ hmem
      have hfit := HQ.out
      have hsn := take_snoc vs j hjl
      have hln : (vs.take j).length ≤ 100000000000 := by rw [List.length_take]; omega
      generalize vs.getD j V5.zero = v at hh hp hss hnm hfit hsn
      have happ := rapp_any k w.heap.size w.heap.size (vs.take j) rv v wr hV (Utf8Tabs_below HTT.out.1 HB) (hp.below HB) hss (fun a e hpp => readsI_lt (e ▸ hp) hpp) hln hnm
      rw [errV, hfit] at happ
      obtain ⟨vk, vn, vb, vss, vA, vp, vc⟩ := v
      obtain ⟨hb, hsp, c0, c1, c2, c3, c4⟩ := hh
      simp only at c0 c1 c2 c3 c4
      rw [← HB.cell hb] at c0
      rw [← HB.cell (p := ⟨(ad.add (j * 5)).block, (ad.add (j * 5)).off + 1, none⟩) hb] at c1
      rw [← HB.cell (p := ⟨(ad.add (j * 5)).block, (ad.add (j * 5)).off + 2, none⟩) hb] at c2
      rw [← HB.cell (p := ⟨(ad.add (j * 5)).block, (ad.add (j * 5)).off + 3, none⟩) hb] at c3
      rw [← HB.cell (p := ⟨(ad.add (j * 5)).block, (ad.add (j * 5)).off + 4, none⟩) hb] at c4
      have hbl : (ad.add (j * 5)).block < wr.heap.size := by have := HB.size; omega
      unfold V5.val at happ
      have HAPP := Aside0.mk happ
      have HBX := Aside0.mk HB
      have HG := Aside0.mk (And.intro hj hg)
      clear hp hfit hsp hjm hjl hmem hV HB hss hnm hln happ hj hg
      go_wp2_with (go_at_call 13; go_loud (refine HAPP.out.mono ?_))
      first
        | (intro e W2 he rv2 hV2 hb2; subst he)
        | rintro e W2 ⟨rfl, ⟨rv2, hV2⟩, hb2⟩
      have HB2 := HBX.out.trans hb2
      go_wp2
      go_ret2
      exact ⟨rfl, HB2⟩
/-- The document's Of of anything. -/
theorem rof_any (k : Int) (A : Option Addr) (vs : List V5) (c : Nat) (w : World) (hr : ReadsV w A vs) (hT : Lib.Utf8Tabs 0 1 w) (hss : ∀ v ∈ vs, v.s.size ≤ 9223372036854775807) (hN : vs.length ≤ 10000000000) :
    Calls Tryd.prog 10 #[.int .i64 k, .slice A vs.length c] w fun e w' => (((1 ≤ k ∧ k ≤ 6) ∧ (∀ v ∈ vs, fitsV k v = true) ∧ e = .returned (.tuple #[.pointer (some ⟨w.heap.size, 0, none⟩), .int .i64 0]) ∧ ∃ rv, RV w' w.heap.size k w.heap.size vs rv) ∨ (¬ ((1 ≤ k ∧ k ≤ 6) ∧ (∀ v ∈ vs, fitsV k v = true)) ∧ e = .returned (.tuple #[.pointer none, .int .i64 (if 1 ≤ k ∧ k ≤ 6 then 31 else 1)]))) ∧ Below w.heap.size w w' := by
  by_cases hk : 1 ≤ k ∧ k ≤ 6
  · by_cases hf : ∀ v ∈ vs, fitsV k v = true
    · refine (rof_ok k A vs c w hk hr hT hss hN hf).mono ?_
      rintro e w' ⟨he, hV, hb⟩
      exact ⟨.inl ⟨hk, hf, he, hV⟩, hb⟩
    · obtain ⟨q, h1, h2, h3⟩ := first_bad k vs hf
      refine (rof_err k A vs c w hk hr hT hss hN q h1 h2 h3).mono ?_
      rintro e w' ⟨he, hb⟩
      exact ⟨.inr ⟨fun h => hf h.2, by rw [if_pos hk]; exact he⟩, hb⟩
  · have hn := rnew_none k w hk
    have h : Calls Tryd.prog 10 #[.int .i64 k, .slice A vs.length c] w fun e w' => e = .returned (.tuple #[.pointer none, .int .i64 1]) ∧ w' = w := by
      go_enter Tryd.func10, Tryd.ntmps10
      go_wp2_with (go_at_call 8; go_loud (refine hn.mono ?_))
      rintro e W2 ⟨rfl, hW⟩
      obtain rfl := hW.symm
      go_wp2
      go_ret2
      exact ⟨rfl, rfl⟩
    refine h.mono ?_
    rintro e w' ⟨he, rfl⟩
    exact ⟨.inr ⟨fun h => hk h.1, by rw [if_neg hk]; exact he⟩, Below.refl _ _⟩
open Go.RowKit Go.Maps

/-- A column of the document, as it is read. -/
structure RVec (W : World) (k : Int) (rb : Nat) (A : Option Addr) (c : Nat) (us : List V5) : Prop where
  box : RBox W rb #[.int .i64 k, .slice A us.length c]
  rd : ReadsV W A us
theorem RVec.below {W W' : World} {k : Int} {rb : Nat} {A : Option Addr} {c : Nat} {us : List V5} (h : RVec W k rb A c us) (hb : Below W.heap.size W W') : RVec W' k rb A c us :=
  ⟨h.box.at_ (hb.block _ h.box.lt), h.rd.below hb⟩
theorem RV.vec {W : World} {B : Nat} {k : Int} {rb : Nat} {us : List V5} {rv : Value} (h : RV W B k rb us rv) : ∃ A c, RVec W k rb A c us := by
  obtain ⟨A, c, rfl, hr⟩ := h.own.reads
  exact ⟨A, c, h.box, hr⟩
set_option maxRecDepth 100000 in
set_option maxHeartbeats 3200000 in
theorem rat_out (k : Int) (rb : Nat) (A : Option Addr) (c : Nat) (us : List V5) (z : Int) (w : World) (hv : RVec w k rb A c us) (hz : z < 0 ∨ (us.length : Int) ≤ z) :
    Calls Tryd.prog 26 #[.pointer (some ⟨rb, 0, none⟩), .int .i64 z] w fun e w' => e = .returned (.agg zeroC) ∧ Below w.heap.size w w' := by
  obtain ⟨W1, hW1⟩ : ∃ W1, W1 = w.alloc (.cells zeroC 39) := ⟨_, rfl⟩
  have hbw := hv.box.lt
  have hv1 : RBox W1 rb _ := hv.box.at_ (by rw [hW1]; exact heap_alloc_old w _ hbw)
  have hx1 : Box W1 w.heap.size zeroC := by rw [hW1]; exact Box.new w _
  have HB1 : Below w.heap.size w W1 := by rw [hW1]; exact below_more (Below.refl _ _) _
  have hc := hv1.cells
  have hf := hv1.free
  have hxc : ∀ j, W1.cell? ⟨w.heap.size, j, none⟩ = (#[.int .i64 0, .bool false, .int .i64 0, .string ⟨#[]⟩, .slice none 0 0] : Array Value)[j]? := hx1.cells
  have hxf := hx1.free
  generalize us.length = N at hc hz
  clear hv hv1
  rcases hz with hz | hz
  · skip
    go_enter Tryd.func26, Tryd.ntmps26
    go_upto_region 1 with (fail)
    rw [show w.alloc (.cells #[.int .i64 0, .bool false, .int .i64 0, .string ⟨#[]⟩, .slice none 0 0] 39) = W1 from hW1.symm]
    clear hW1
    go_wp2
    obtain ⟨W7, hW7⟩ : ∃ W7, W7 = (((((W1.setCell ⟨w.heap.size, 0, none⟩ (.int .i64 0)).setCell ⟨w.heap.size, 1, none⟩ (.bool false)).setCell ⟨w.heap.size, 2, none⟩ (.int .i64 0)).setCell ⟨w.heap.size, 3, none⟩ (.string ⟨#[]⟩)).setCell ⟨w.heap.size, 4, none⟩ (.slice none 0 0)) := ⟨_, rfl⟩
    rw [← hW7]
    have HB7 : Below w.heap.size w W7 := by rw [hW7]; exact below_set (below_set (below_set (below_set (below_set HB1 (Nat.le_refl _) _) (Nat.le_refl _) _) (Nat.le_refl _) _) (Nat.le_refl _) _) (Nat.le_refl _) _
    have xr7 : Box W7 w.heap.size #[.int .i64 0, .bool false, .int .i64 0, .string ⟨#[]⟩, .slice none 0 0] := by rw [hW7]; exact ((((hx1.put 0 _).put 1 _).put 2 _).put 3 _).put 4 _
    refine bodyPost_ret (results_val rfl rfl xr7 rfl) rfl ?_
    exact ⟨rfl, HB7⟩
  · have hz0 : ¬ z < 0 := by omega
    have hz1 : 0 ≤ z := by omega
    have hz2 : ¬ z < (N : Int) := by omega
    go_enter Tryd.func26, Tryd.ntmps26
    go_upto_region 1 with (fail)
    rw [show w.alloc (.cells #[.int .i64 0, .bool false, .int .i64 0, .string ⟨#[]⟩, .slice none 0 0] 39) = W1 from hW1.symm]
    clear hW1
    go_wp2
    all_goals skip
    obtain ⟨W7, hW7⟩ : ∃ W7, W7 = (((((W1.setCell ⟨w.heap.size, 0, none⟩ (.int .i64 0)).setCell ⟨w.heap.size, 1, none⟩ (.bool false)).setCell ⟨w.heap.size, 2, none⟩ (.int .i64 0)).setCell ⟨w.heap.size, 3, none⟩ (.string ⟨#[]⟩)).setCell ⟨w.heap.size, 4, none⟩ (.slice none 0 0)) := ⟨_, rfl⟩
    rw [← hW7]
    have HB7 : Below w.heap.size w W7 := by rw [hW7]; exact below_set (below_set (below_set (below_set (below_set HB1 (Nat.le_refl _) _) (Nat.le_refl _) _) (Nat.le_refl _) _) (Nat.le_refl _) _) (Nat.le_refl _) _
    have xr7 : Box W7 w.heap.size #[.int .i64 0, .bool false, .int .i64 0, .string ⟨#[]⟩, .slice none 0 0] := by rw [hW7]; exact ((((hx1.put 0 _).put 1 _).put 2 _).put 3 _).put 4 _
    refine bodyPost_ret (results_val rfl rfl xr7 rfl) rfl ?_
    exact ⟨rfl, HB7⟩
set_option maxRecDepth 100000 in
set_option maxHeartbeats 3200000 in
theorem rat_in (k : Int) (rb : Nat) (A : Option Addr) (c : Nat) (us : List V5) (i : Nat) (w : World) (hv : RVec w k rb A c us) (hi : i < us.length) :
    Calls Tryd.prog 26 #[.pointer (some ⟨rb, 0, none⟩), .int .i64 (i : Int)] w fun e w' => e = .returned (us.getD i V5.zero).val ∧ Below w.heap.size w w' := by
  obtain ⟨W1, hW1⟩ : ∃ W1, W1 = w.alloc (.cells zeroC 39) := ⟨_, rfl⟩
  have hbw := hv.box.lt
  have hv1 : RBox W1 rb _ := hv.box.at_ (by rw [hW1]; exact heap_alloc_old w _ hbw)
  have hx1 : Box W1 w.heap.size zeroC := by rw [hW1]; exact Box.new w _
  have HB1 : Below w.heap.size w W1 := by rw [hW1]; exact below_more (Below.refl _ _) _
  obtain ⟨ad, rfl, hh⟩ := (hv.rd.below HB1).row i hi
  have hc := hv1.cells
  have hf := hv1.free
  have hxc : ∀ j, W1.cell? ⟨w.heap.size, j, none⟩ = (#[.int .i64 0, .bool false, .int .i64 0, .string ⟨#[]⟩, .slice none 0 0] : Array Value)[j]? := hx1.cells
  have hxf := hx1.free
  have hl9 := hv.rd.len
  generalize us.getD i V5.zero = v at hh ⊢
  generalize us.length = N at hc hi hl9
  have hi0 : ¬ (i : Int) < 0 := by omega
  have hi1 : (0 : Int) ≤ (i : Int) := by omega
  have hi2 : (i : Int) < (N : Int) := by omega
  obtain ⟨vk, vn, vb, vss, vA, vp, vc⟩ := v
  obtain ⟨hb, hsp, c0, c1, c2, c3, c4⟩ := hh
  simp only at c0 c1 c2 c3 c4
  clear hv hv1 hi
  go_enter Tryd.func26, Tryd.ntmps26
  go_upto_region 1 with (fail)
  rw [show w.alloc (.cells #[.int .i64 0, .bool false, .int .i64 0, .string ⟨#[]⟩, .slice none 0 0] 39) = W1 from hW1.symm]
  clear hW1
  go_wp2
  all_goals skip
  obtain ⟨W7, hW7⟩ : ∃ W7, W7 = (((((W1.setCell ⟨w.heap.size, 0, none⟩ (.int .i64 vk)).setCell ⟨w.heap.size, 1, none⟩ (.bool vb)).setCell ⟨w.heap.size, 2, none⟩ (.int .i64 vn)).setCell ⟨w.heap.size, 3, none⟩ (.string vss)).setCell ⟨w.heap.size, 4, none⟩ (.slice vA vp.length vc)) := ⟨_, rfl⟩
  rw [← hW7]
  have HB7 : Below w.heap.size w W7 := by rw [hW7]; exact below_set (below_set (below_set (below_set (below_set HB1 (Nat.le_refl _) _) (Nat.le_refl _) _) (Nat.le_refl _) _) (Nat.le_refl _) _) (Nat.le_refl _) _
  have xr7 : Box W7 w.heap.size #[.int .i64 vk, .bool vb, .int .i64 vn, .string vss, .slice vA vp.length vc] := by rw [hW7]; exact ((((hx1.put 0 _).put 1 _).put 2 _).put 3 _).put 4 _
  refine bodyPost_ret (results_val rfl rfl xr7 rfl) rfl ?_
  exact ⟨rfl, HB7⟩
set_option maxRecDepth 100000 in
set_option maxHeartbeats 3200000 in
theorem rnulls_any (k : Int) (rb : Nat) (A : Option Addr) (c : Nat) (us : List V5) (w : World) (hv : RVec w k rb A c us) (hN : us.length ≤ 1000000000000) :
    Calls Tryd.prog 25 #[.pointer (some ⟨rb, 0, none⟩)] w fun e w' => e = .returned (.int .i64 (cntB (us.map fun v => v.k == 0) : Int)) ∧ w' = w := by
  have hc := hv.box.cells
  have hf := hv.box.free
  have hrd := hv.rd
  obtain ⟨L, hL⟩ : ∃ L, L = us.map fun v => v.k == 0 := ⟨_, rfl⟩
  have hLl : L.length = us.length := by rw [hL, List.length_map]
  have HAT : Aside0 (∀ j, j < us.length → L.getD j false = ((us.getD j V5.zero).k == 0)) := ⟨fun j hj => by rw [hL]; simp [List.getD, hj]⟩
  have HRD := Aside0.mk (And.intro hrd hLl)
  rw [← hL]
  obtain ⟨m, hm⟩ : ∃ m, m = us.length := ⟨_, rfl⟩
  have HM := Aside0.mk hm
  rw [← hm] at hc hN
  have hN9 : (m : Int) ≤ 1000000000000 := by omega
  clear hv hL hLl hrd hm
  go_enter Tryd.func25, Tryd.ntmps25
  go_wp2
  go_loopg [3, 4] (m + 1) (fun gg s3 s4 wr => ∃ (j n : Nat), j ≤ m ∧ m < gg + j ∧ s4 = .int .i64 j ∧ s3 = .int .i64 n ∧ n ≤ j ∧ Aside0 (n = cntB (L.take j)) ∧ wr = w)
  case atStart => exact ⟨0, 0, by omega, by omega, rfl, rfl, by omega, ⟨rfl⟩, rfl⟩
  case round =>
    obtain ⟨j, n, hj, hg, rfl, rfl, hnj, HN, rfl⟩ := hrel
    have hj0 : (0 : Int) ≤ (j : Int) := by omega
    by_cases hlt : j < m
    · have hlti : (j : Int) < (m : Int) := by omega
      obtain ⟨ad, rfl, hh⟩ := HRD.out.1.row j (by have := HM.out; omega)
      have hat := HAT.out j (by have := HM.out; omega)
      have hct := cntB_take L j (by have := HM.out; have := HRD.out.2; omega)
      rw [hat, ← HN.out] at hct
      generalize us.getD j V5.zero = v at hh hct
      obtain ⟨hb, hsp, c0, c1, c2, c3, c4⟩ := hh
      generalize v.k = vk at c0 hct
      have HCT := Aside0.mk hct
      clear hat hct
      by_cases hk : vk = 0
      · subst hk
        have HCT2 : Aside0 (n + 1 = cntB (L.take (j + 1))) := ⟨by rw [HCT.out]; rfl⟩
        go_wp2
        go_roundg (gk - 1)
        case measure => omega
        case rel => exact ⟨j + 1, n + 1, by omega, by omega, by go_num, by go_num, by omega, HCT2, rfl⟩
      · have hk2 : (vk == 0) = false := by simp [hk]
        have HCT2 : Aside0 (n = cntB (L.take (j + 1))) := ⟨by rw [HCT.out, hk2]; rfl⟩
        clear hk
        go_wp2
        go_roundg (gk - 1)
        case measure => omega
        case rel => exact ⟨j + 1, n, by omega, by omega, by go_num, rfl, by omega, HCT2, rfl⟩
    · obtain rfl : j = m := by omega
      have hjj : ¬ (j : Int) < (j : Int) := by omega
      have e : L.take j = L := List.take_of_length_le (by have := HM.out; have := HRD.out.2; omega)
      go_wp2
      go_ret
      exact ⟨by rw [HN.out, e]; rfl, rfl⟩
/-- The texts of a column, each once. -/
def stepD (D : List ByteArray) (u : V5) : List ByteArray := if (u.k == 0 || anyT D u.s) = true then D else D ++ [u.s]
def dictR (us : List V5) : List ByteArray := us.foldl stepD []
theorem dictR_snoc (us : List V5) (u : V5) : dictR (us ++ [u]) = stepD (dictR us) u := by rw [dictR, dictR, List.foldl_append]; rfl
theorem dictR_len : ∀ (us : List V5) (D : List ByteArray), (us.foldl stepD D).length ≤ D.length + us.length
  | [], D => by simp
  | u :: r, D => by
    rw [List.foldl_cons]
    have h := dictR_len r (stepD D u)
    have h2 : (stepD D u).length ≤ D.length + 1 := by
      unfold stepD
      split
      · omega
      · rw [List.length_append]; simp
    simp only [List.length_cons]
    omega
theorem append_strB {wr : World} {ops : Array Oper} {rest : List Oper} {o : Oper} {a : Act} {Q : Exit → Act → World → Prop} (hgd : o.guard = none) (s x : Operand)
    (ho : o.op = .call { callee := .builtin .append, args := #[s, x], argTypes := #[52, 52] }) (B : Nat)
    (v : Value) (n : Nat) (xs : List Value) (hs : a.eval s = v) (hown : wr.ownsRow B 9 1 v n xs) (b : ByteArray) (hx : a.eval x = .slice (some ⟨wr.heap.size, 0, none⟩) 1 1)
    (hn : n ≤ 8796093022207) (hB : B ≤ wr.heap.size)
    (h : ∀ v' w', w'.ownsRow B 9 1 v' (n + 1) (xs ++ [.string b]) → Below B wr w' → wpList Tryd.prog ops Q rest (a.put o.dst v') w') :
    wpList Tryd.prog ops Q (o :: rest) a (wr.alloc (.cells #[.string b] 9)) := by
  obtain ⟨i0, hi, hz0, hz1, hz2⟩ := info_parts info_str
  refine wpList_append_own_at (w := wr.alloc (.cells #[.string b] 9)) hgd s x 52 ho B 9 i0 (.string ⟨#[]⟩) 1 16 Tryd.underlying52 hi hz0 hz1 hz2 rfl (by decide) v n xs hs (hown.alloc _) ⟨wr.heap.size, 0, none⟩ 1 1 [.string b] hx rfl (cell_one_new _ _ _) (by intro u hu; simp at hu; subst hu; rfl) (by unfold maxLen; omega) (by omega) (by simp; omega) ?_
  intro v' w' h1 h2 _ h4
  refine h v' w' h1 ?_
  have hg := (World.grownBy_alloc wr (.cells #[.string b] 9) v.ownBlock).trans h2
  exact ⟨hg.os, hg.tape, hg.output, hg.size, fun k hk => hg.block k (by omega) (fun e => by have := (hown.lt k e.symm).1; omega)⟩
theorem rdict_none (k : Int) (hk : (k == 3) = false) (rb : Nat) (A : Option Addr) (c : Nat) (us : List V5) (w : World) (hv : RVec w k rb A c us) :
    Calls Tryd.prog 22 #[.pointer (some ⟨rb, 0, none⟩)] w fun e w' => e = .returned (.slice none 0 0) ∧ w' = w := by
  have hc := hv.box.cells
  have hf := hv.box.free
  have hl := hv.rd.len
  generalize us.length = m at hc hl
  clear hv
  go_enter Tryd.func22, Tryd.ntmps22
  go_wp2
  go_loopg [3, 4] 1 (fun gg s3 s4 wr => s3 = .slice none 0 0 ∧ s4 = .int .i64 0 ∧ gg = 1 ∧ wr = w)
  case atStart => exact ⟨rfl, rfl, rfl, rfl⟩
  case round =>
    obtain ⟨rfl, rfl, _, rfl⟩ := hrel
    by_cases h0 : 0 < m
    · have h1 : (0 : Int) < (m : Int) := by omega
      go_wp2
      all_goals
        go_ret
        exact ⟨rfl, rfl⟩
    · have h1 : ¬ (0 : Int) < (m : Int) := by omega
      go_wp2
      all_goals
        go_ret
        exact ⟨rfl, rfl⟩
set_option maxRecDepth 100000 in
set_option maxHeartbeats 6400000 in
theorem rdict_text (rb : Nat) (A : Option Addr) (c : Nat) (us : List V5) (w : World) (hv : RVec w 3 rb A c us) (hN : us.length ≤ 100000000000) :
    Calls Tryd.prog 22 #[.pointer (some ⟨rb, 0, none⟩)] w fun e w' => ∃ A' c', e = .returned (.slice A' (dictR us).length c') ∧ ReadsT w' A' (dictR us) ∧ Below w.heap.size w w' := by
  have hbw := hv.box.lt
  have HBXW : Aside0 (∀ WW, Below w.heap.size w WW → RBox WW rb #[.int .i64 3, .slice A us.length c]) := ⟨fun WW h => hv.box.at_ (h.block _ hbw)⟩
  have HRD := Aside0.mk hv.rd
  obtain ⟨m, hm⟩ : ∃ m, m = us.length := ⟨_, rfl⟩
  have HM := Aside0.mk hm
  rw [← hm] at HBXW hN
  have hN9 : (m : Int) ≤ 100000000000 := by omega
  have hc := (HBXW.out w (Below.refl _ _)).cells
  have hf := (HBXW.out w (Below.refl _ _)).free
  clear hv hm hbw
  go_enter Tryd.func22, Tryd.ntmps22
  go_wp2
  clear hc hf
  go_loopg [3, 4] (m + 1) (fun gg s3 s4 wr => ∃ (j : Nat) (D : List ByteArray), j ≤ m ∧ m < gg + j ∧ s4 = .int .i64 j ∧ Aside0 (D = dictR (us.take j)) ∧ wr.ownsRow w.heap.size 9 1 s3 D.length (textCells D) ∧ Below w.heap.size w wr)
  case atStart => exact ⟨0, [], by omega, by omega, rfl, ⟨rfl⟩, World.ownsRow_nil _ _ _ _, Below.refl _ _⟩
  case round =>
    obtain ⟨j, D, hj, hg, rfl, HD, hO, HB⟩ := hrel
    have hj0 : (0 : Int) ≤ (j : Int) := by omega
    have hc := (HBXW.out wr HB).cells
    have hf := (HBXW.out wr HB).free
    by_cases hlt : j < m
    · have hlti : (j : Int) < (m : Int) := by omega
      have hjl : j < us.length := by have := HM.out; omega
      obtain ⟨ad, rfl, hh⟩ := (HRD.out.below HB).row j hjl
      have hsn := take_snoc us j hjl
      have hdl : D.length ≤ j := by rw [HD.out]; have h := dictR_len (us.take j) []; rw [List.length_take] at h; simp at h; unfold dictR; omega
      generalize us.getD j V5.zero = v at hh hsn
      obtain ⟨hb, hsp, c0, c1, c2, c3, c4⟩ := hh
      have HST : Aside0 (stepD D v = dictR (us.take (j + 1))) := ⟨by rw [hsn, dictR_snoc, HD.out]⟩
      obtain ⟨AD, cD, rfl, hrT⟩ := own_texts hO
      have HO := Aside0.mk (And.intro hO (And.intro hrT HB))
      have HG : Aside0 (j ≤ m ∧ m < gk + j) := ⟨And.intro hj hg⟩
      obtain ⟨G, hG⟩ : ∃ G, G = gk := ⟨_, rfl⟩
      rw [← hG] at HG
      have HGE := Aside0.mk hG
      clear hG
      obtain ⟨x, y, s, hx, hy, hs⟩ : ∃ x y s, x = v.k ∧ y = (v.k == 0) ∧ s = v.s := ⟨_, _, _, rfl, rfl, rfl⟩
      rw [← hx] at c0
      rw [← hs] at c3
      have hxy : (x == 0) = y := by rw [hx, hy]
      have HVS := Aside0.mk (And.intro hy hs)
      obtain ⟨n, hn⟩ : ∃ n, n = D.length := ⟨_, rfl⟩
      have HN := Aside0.mk hn
      rw [← hn] at hdl ⊢
      have HTX : Aside0 (∀ WW, Below wr.heap.size wr WW → WW.cell? ⟨(ad.add (j * 5)).block, (ad.add (j * 5)).off + 3, none⟩ = some (.string s)) := ⟨fun WW h => (h.cell (p := ⟨(ad.add (j * 5)).block, (ad.add (j * 5)).off + 3, none⟩) hb).trans c3⟩
      have HRB : Aside0 (∀ WW, Below wr.heap.size wr WW → ∀ i, WW.cell? ⟨rb, i, none⟩ = (#[.int .i64 3, .slice (some ad) m c] : Array Value)[i]?) := ⟨fun WW h => (HBXW.out WW (below_then HB h)).cells⟩
      clear hO hrT HB hj hg hx hy hs hn hsn c1 c2 c4 c3 HD
      go_upto_region 7 with (fail)
      clear hc hf c0 hb hsp hxy
      generalize wr = wo at HO HTX HRB ⊢
      go_loopg [5, 6] (n + 1) (fun gg s5 s6 wx => ∃ (q : Nat) (kn : Bool), q ≤ n ∧ n < gg + q ∧ s6 = .int .i64 q ∧ s5 = .bool kn ∧ Aside0 (kn = (y || anyT (D.take q) s)) ∧ Below wo.heap.size wo wx)
      case atStart => exact ⟨0, _, by omega, by omega, rfl, rfl, ⟨by simp [anyT]⟩, Below.refl _ _⟩
      case round =>
        obtain ⟨q, kn, hq, hgq, rfl, rfl, HK, HBX0⟩ := hrel
        have hq0 : (0 : Int) ≤ (q : Int) := by omega
        have HBX := Aside0.mk HBX0
        clear HBX0
        by_cases hqm : q < n
        · have hqmi : (q : Int) < (n : Int) := by omega
          have hql : q < D.length := by have := HN.out; omega
          have hat : (y || anyT (D.take (q + 1)) s) = (kn || decide (D.getD q ByteArray.empty = s)) := by rw [any_take D s q hql, ← Bool.or_assoc, ← HK.out]
          obtain ⟨adw, rfl, hcw⟩ := HO.out.2.1.at_ q hql
          have hcwl := World.block_lt_of_cell? wo _ hcw
          have HCW : Aside0 (∀ WW, Below wo.heap.size wo WW → WW.cell? (adw.add q) = some (.string (D.getD q ByteArray.empty))) := ⟨fun WW h => (h.cell hcwl).trans hcw⟩
          generalize D.getD q ByteArray.empty = x at HCW hat
          have HAT := Aside0.mk hat
          have HGQ := Aside0.mk (And.intro hq hgq)
          clear hat hql HK hcw hcwl hq hgq
          cases kn
          · by_cases hxe : x = s
            · subst hxe
              have hxs : (x.toList == x.toList) = true := by simp
              go_upto_region 9 with (fail)
              refine wp_region_held_drew (S := (fun WW => Below wo.heap.size wo WW)) (by kernel_rfl) ?_ (fun hHeld => ?_)
              · (repeat (first | exact HBX.out | apply below_drew))
              refine take_in (i := 0) (v := .bool false) rfl (by kernel_rfl) (by kernel_rfl) (by kernel_rfl) (fun _ _ _ h => h) (by rfl) ?hy0a (by assumption) ?_
              case hy0a => intro WW hSw; (try dsimp only at hSw); go_simp; try with_reducible rfl
              try simp only [Act.put, List.setIfInBounds_toArray, List.set_cons_zero, List.set_cons_succ]
              refine take_in (i := 1) (v := .bool false) rfl (by kernel_rfl) (by kernel_rfl) (by kernel_rfl) (fun _ _ _ h => h) (by rfl) ?hy1a (by assumption) ?_
              case hy1a => intro WW hSw; (try dsimp only at hSw); go_simp; try with_reducible rfl
              try simp only [Act.put, List.setIfInBounds_toArray, List.set_cons_zero, List.set_cons_succ]
              refine take_in (i := 2) (v := ?v2a) rfl (by kernel_rfl) (by kernel_rfl) (by kernel_rfl) (fun _ _ _ h => h) (by rfl) ?hy2a (by assumption) ?_
              case hy2a => intro WW hSw; (try dsimp only at hSw); go_simp; try with_reducible rfl
              try simp only [Act.put, List.setIfInBounds_toArray, List.set_cons_zero, List.set_cons_succ]
              refine take_in (i := 3) (v := ?v3a) rfl (by kernel_rfl) (by kernel_rfl) (by kernel_rfl) (fun _ _ _ h => h) (by rfl) ?hy3a (by assumption) ?_
              case hy3a => intro WW hSw; (try dsimp only at hSw); go_simp; try with_reducible rfl
              try simp only [Act.put, List.setIfInBounds_toArray, List.set_cons_zero, List.set_cons_succ]
              refine take_in (i := 4) (v := ?v4a) rfl (by kernel_rfl) (by kernel_rfl) (by kernel_rfl) (fun _ _ _ h => h) (by rfl) ?hy4a (by assumption) ?_
              case hy4a => intro WW hSw; (try dsimp only at hSw); go_simp; try with_reducible rfl
              try simp only [Act.put, List.setIfInBounds_toArray, List.set_cons_zero, List.set_cons_succ]
              refine take_in (i := 5) (v := .string x) rfl (by kernel_rfl) (by kernel_rfl) (by kernel_rfl) (fun _ _ _ h => h) (by rfl) ?hy5a (by assumption) ?_
              case hy5a => intro WW hSw; have h1 := HCW.out WW hSw; have h2 := HRB.out WW hSw; have h3 := HTX.out WW hSw; go_simp; try with_reducible rfl
              try simp only [Act.put, List.setIfInBounds_toArray, List.set_cons_zero, List.set_cons_succ]
              refine take_in (i := 6) (v := ?v6a) rfl (by kernel_rfl) (by kernel_rfl) (by kernel_rfl) (fun _ _ _ h => h) (by rfl) ?hy6a (by assumption) ?_
              case hy6a => intro WW hSw; (try dsimp only at hSw); go_simp; try with_reducible rfl
              try simp only [Act.put, List.setIfInBounds_toArray, List.set_cons_zero, List.set_cons_succ]
              refine take_in (i := 7) (v := ?v7a) rfl (by kernel_rfl) (by kernel_rfl) (by kernel_rfl) (fun _ _ _ h => h) (by rfl) ?hy7a (by assumption) ?_
              case hy7a => intro WW hSw; (try dsimp only at hSw); go_simp; try with_reducible rfl
              try simp only [Act.put, List.setIfInBounds_toArray, List.set_cons_zero, List.set_cons_succ]
              refine take_in (i := 8) (v := ?v8a) rfl (by kernel_rfl) (by kernel_rfl) (by kernel_rfl) (fun _ _ _ h => h) (by rfl) ?hy8a (by assumption) ?_
              case hy8a => intro WW hSw; (try dsimp only at hSw); go_simp; try with_reducible rfl
              try simp only [Act.put, List.setIfInBounds_toArray, List.set_cons_zero, List.set_cons_succ]
              refine take_in (i := 9) (v := ?v9a) rfl (by kernel_rfl) (by kernel_rfl) (by kernel_rfl) (fun _ _ _ h => h) (by rfl) ?hy9a (by assumption) ?_
              case hy9a => intro WW hSw; have h1 := HCW.out WW hSw; have h2 := HRB.out WW hSw; have h3 := HTX.out WW hSw; go_simp; try with_reducible rfl
              try simp only [Act.put, List.setIfInBounds_toArray, List.set_cons_zero, List.set_cons_succ]
              refine take_in (i := 10) (v := ?v10a) rfl (by kernel_rfl) (by kernel_rfl) (by kernel_rfl) (fun _ _ _ h => h) (by rfl) ?hy10a (by assumption) ?_
              case hy10a => intro WW hSw; (try dsimp only at hSw); go_simp; try with_reducible rfl
              try simp only [Act.put, List.setIfInBounds_toArray, List.set_cons_zero, List.set_cons_succ]
              refine take_in (i := 11) (v := ?v11a) rfl (by kernel_rfl) (by kernel_rfl) (by kernel_rfl) (fun _ _ _ h => h) (by rfl) ?hy11a (by assumption) ?_
              case hy11a => intro WW hSw; (try dsimp only at hSw); go_simp; try with_reducible rfl
              try simp only [Act.put, List.setIfInBounds_toArray, List.set_cons_zero, List.set_cons_succ]
              refine take_in (i := 12) (v := ?v12a) rfl (by kernel_rfl) (by kernel_rfl) (by kernel_rfl) (fun _ _ _ h => h) (by rfl) ?hy12a (by assumption) ?_
              case hy12a => intro WW hSw; (try dsimp only at hSw); go_simp; try with_reducible rfl
              try simp only [Act.put, List.setIfInBounds_toArray, List.set_cons_zero, List.set_cons_succ]
              refine take_in (i := 13) (v := .string x) rfl (by kernel_rfl) (by kernel_rfl) (by kernel_rfl) (fun _ _ _ h => h) (by rfl) ?hy13a (by assumption) ?_
              case hy13a => intro WW hSw; have h1 := HCW.out WW hSw; have h2 := HRB.out WW hSw; have h3 := HTX.out WW hSw; go_simp; try with_reducible rfl
              try simp only [Act.put, List.setIfInBounds_toArray, List.set_cons_zero, List.set_cons_succ]
              refine take_in (i := 14) (v := .bool true) rfl (by kernel_rfl) (by kernel_rfl) (by kernel_rfl) (fun _ _ _ h => h) (by rfl) ?hy14a (by assumption) ?_
              case hy14a => intro WW hSw; have hh := hxs; go_simp; try with_reducible rfl
              try simp only [Act.put, List.setIfInBounds_toArray, List.set_cons_zero, List.set_cons_succ]
              refine take_in (i := 15) (v := .bool true) rfl (by kernel_rfl) (by kernel_rfl) (by kernel_rfl) (fun _ _ _ h => h) (by rfl) ?hy15a (by assumption) ?_
              case hy15a => intro WW hSw; (try dsimp only at hSw); go_simp; try with_reducible rfl
              try simp only [Act.put, List.setIfInBounds_toArray, List.set_cons_zero, List.set_cons_succ]
              refine take_in (i := 16) (v := .bool true) rfl (by kernel_rfl) (by kernel_rfl) (by kernel_rfl) (fun _ _ _ h => h) (by rfl) ?hy16a (by assumption) ?_
              case hy16a => intro WW hSw; (try dsimp only at hSw); go_simp; try with_reducible rfl
              try simp only [Act.put, List.setIfInBounds_toArray, List.set_cons_zero, List.set_cons_succ]
              refine wpAnyH_done (by kernel_rfl) ?_ _
              go_wp2
              go_roundg (gk - 1)
              case measure => have := HGQ.out; omega
              case rel => exact ⟨q + 1, true, by omega, by have := HGQ.out; omega, by go_num, rfl, ⟨by rw [HAT.out]; simp⟩, (by repeat (first | exact HBX.out | apply below_drew))⟩
            · have hxs : (x.toList == s.toList) = false := by
                rw [beq_eq_false_iff_ne]
                intro h
                rw [ByteArray.toList_eq, ByteArray.toList_eq] at h
                exact hxe (ba_ext h)
              have HXE := Aside0.mk hxe
              clear hxe
              go_upto_region 9 with (fail)
              refine wp_region_held_drew (S := (fun WW => Below wo.heap.size wo WW)) (by kernel_rfl) ?_ (fun hHeld => ?_)
              · (repeat (first | exact HBX.out | apply below_drew))
              refine take_in (i := 0) (v := .bool false) rfl (by kernel_rfl) (by kernel_rfl) (by kernel_rfl) (fun _ _ _ h => h) (by rfl) ?hy0b (by assumption) ?_
              case hy0b => intro WW hSw; (try dsimp only at hSw); go_simp; try with_reducible rfl
              try simp only [Act.put, List.setIfInBounds_toArray, List.set_cons_zero, List.set_cons_succ]
              refine take_in (i := 1) (v := .bool false) rfl (by kernel_rfl) (by kernel_rfl) (by kernel_rfl) (fun _ _ _ h => h) (by rfl) ?hy1b (by assumption) ?_
              case hy1b => intro WW hSw; (try dsimp only at hSw); go_simp; try with_reducible rfl
              try simp only [Act.put, List.setIfInBounds_toArray, List.set_cons_zero, List.set_cons_succ]
              refine take_in (i := 2) (v := ?v2b) rfl (by kernel_rfl) (by kernel_rfl) (by kernel_rfl) (fun _ _ _ h => h) (by rfl) ?hy2b (by assumption) ?_
              case hy2b => intro WW hSw; (try dsimp only at hSw); go_simp; try with_reducible rfl
              try simp only [Act.put, List.setIfInBounds_toArray, List.set_cons_zero, List.set_cons_succ]
              refine take_in (i := 3) (v := ?v3b) rfl (by kernel_rfl) (by kernel_rfl) (by kernel_rfl) (fun _ _ _ h => h) (by rfl) ?hy3b (by assumption) ?_
              case hy3b => intro WW hSw; (try dsimp only at hSw); go_simp; try with_reducible rfl
              try simp only [Act.put, List.setIfInBounds_toArray, List.set_cons_zero, List.set_cons_succ]
              refine take_in (i := 4) (v := ?v4b) rfl (by kernel_rfl) (by kernel_rfl) (by kernel_rfl) (fun _ _ _ h => h) (by rfl) ?hy4b (by assumption) ?_
              case hy4b => intro WW hSw; (try dsimp only at hSw); go_simp; try with_reducible rfl
              try simp only [Act.put, List.setIfInBounds_toArray, List.set_cons_zero, List.set_cons_succ]
              refine take_in (i := 5) (v := .string x) rfl (by kernel_rfl) (by kernel_rfl) (by kernel_rfl) (fun _ _ _ h => h) (by rfl) ?hy5b (by assumption) ?_
              case hy5b => intro WW hSw; have h1 := HCW.out WW hSw; have h2 := HRB.out WW hSw; have h3 := HTX.out WW hSw; go_simp; try with_reducible rfl
              try simp only [Act.put, List.setIfInBounds_toArray, List.set_cons_zero, List.set_cons_succ]
              refine take_in (i := 6) (v := ?v6b) rfl (by kernel_rfl) (by kernel_rfl) (by kernel_rfl) (fun _ _ _ h => h) (by rfl) ?hy6b (by assumption) ?_
              case hy6b => intro WW hSw; (try dsimp only at hSw); go_simp; try with_reducible rfl
              try simp only [Act.put, List.setIfInBounds_toArray, List.set_cons_zero, List.set_cons_succ]
              refine take_in (i := 7) (v := ?v7b) rfl (by kernel_rfl) (by kernel_rfl) (by kernel_rfl) (fun _ _ _ h => h) (by rfl) ?hy7b (by assumption) ?_
              case hy7b => intro WW hSw; (try dsimp only at hSw); go_simp; try with_reducible rfl
              try simp only [Act.put, List.setIfInBounds_toArray, List.set_cons_zero, List.set_cons_succ]
              refine take_in (i := 8) (v := ?v8b) rfl (by kernel_rfl) (by kernel_rfl) (by kernel_rfl) (fun _ _ _ h => h) (by rfl) ?hy8b (by assumption) ?_
              case hy8b => intro WW hSw; (try dsimp only at hSw); go_simp; try with_reducible rfl
              try simp only [Act.put, List.setIfInBounds_toArray, List.set_cons_zero, List.set_cons_succ]
              refine take_in (i := 9) (v := ?v9b) rfl (by kernel_rfl) (by kernel_rfl) (by kernel_rfl) (fun _ _ _ h => h) (by rfl) ?hy9b (by assumption) ?_
              case hy9b => intro WW hSw; have h1 := HCW.out WW hSw; have h2 := HRB.out WW hSw; have h3 := HTX.out WW hSw; go_simp; try with_reducible rfl
              try simp only [Act.put, List.setIfInBounds_toArray, List.set_cons_zero, List.set_cons_succ]
              refine take_in (i := 10) (v := ?v10b) rfl (by kernel_rfl) (by kernel_rfl) (by kernel_rfl) (fun _ _ _ h => h) (by rfl) ?hy10b (by assumption) ?_
              case hy10b => intro WW hSw; (try dsimp only at hSw); go_simp; try with_reducible rfl
              try simp only [Act.put, List.setIfInBounds_toArray, List.set_cons_zero, List.set_cons_succ]
              refine take_in (i := 11) (v := ?v11b) rfl (by kernel_rfl) (by kernel_rfl) (by kernel_rfl) (fun _ _ _ h => h) (by rfl) ?hy11b (by assumption) ?_
              case hy11b => intro WW hSw; (try dsimp only at hSw); go_simp; try with_reducible rfl
              try simp only [Act.put, List.setIfInBounds_toArray, List.set_cons_zero, List.set_cons_succ]
              refine take_in (i := 12) (v := ?v12b) rfl (by kernel_rfl) (by kernel_rfl) (by kernel_rfl) (fun _ _ _ h => h) (by rfl) ?hy12b (by assumption) ?_
              case hy12b => intro WW hSw; (try dsimp only at hSw); go_simp; try with_reducible rfl
              try simp only [Act.put, List.setIfInBounds_toArray, List.set_cons_zero, List.set_cons_succ]
              refine take_in (i := 13) (v := .string s) rfl (by kernel_rfl) (by kernel_rfl) (by kernel_rfl) (fun _ _ _ h => h) (by rfl) ?hy13b (by assumption) ?_
              case hy13b => intro WW hSw; have h1 := HCW.out WW hSw; have h2 := HRB.out WW hSw; have h3 := HTX.out WW hSw; go_simp; try with_reducible rfl
              try simp only [Act.put, List.setIfInBounds_toArray, List.set_cons_zero, List.set_cons_succ]
              refine take_in (i := 14) (v := .bool false) rfl (by kernel_rfl) (by kernel_rfl) (by kernel_rfl) (fun _ _ _ h => h) (by rfl) ?hy14b (by assumption) ?_
              case hy14b => intro WW hSw; have hh := hxs; go_simp; try with_reducible rfl
              try simp only [Act.put, List.setIfInBounds_toArray, List.set_cons_zero, List.set_cons_succ]
              refine take_in (i := 15) (v := .bool false) rfl (by kernel_rfl) (by kernel_rfl) (by kernel_rfl) (fun _ _ _ h => h) (by rfl) ?hy15b (by assumption) ?_
              case hy15b => intro WW hSw; (try dsimp only at hSw); go_simp; try with_reducible rfl
              try simp only [Act.put, List.setIfInBounds_toArray, List.set_cons_zero, List.set_cons_succ]
              refine take_in (i := 16) (v := .bool false) rfl (by kernel_rfl) (by kernel_rfl) (by kernel_rfl) (fun _ _ _ h => h) (by rfl) ?hy16b (by assumption) ?_
              case hy16b => intro WW hSw; (try dsimp only at hSw); go_simp; try with_reducible rfl
              try simp only [Act.put, List.setIfInBounds_toArray, List.set_cons_zero, List.set_cons_succ]
              refine wpAnyH_done (by kernel_rfl) ?_ _
              go_wp2
              go_roundg (gk - 1)
              case measure => have := HGQ.out; omega
              case rel => exact ⟨q + 1, false, by omega, by have := HGQ.out; omega, by go_num, rfl, ⟨by rw [HAT.out, decide_eq_false HXE.out]; rfl⟩, (by repeat (first | exact HBX.out | apply below_drew))⟩
          · skip
            go_upto_region 9 with (fail)
            refine wp_region_held_drew (S := (fun WW => Below wo.heap.size wo WW)) (by kernel_rfl) ?_ (fun hHeld => ?_)
            · (repeat (first | exact HBX.out | apply below_drew))
            refine take_in (i := 0) (v := .bool true) rfl (by kernel_rfl) (by kernel_rfl) (by kernel_rfl) (fun _ _ _ h => h) (by rfl) ?hy0c (by assumption) ?_
            case hy0c => intro WW hSw; (try dsimp only at hSw); go_simp; try with_reducible rfl
            try simp only [Act.put, List.setIfInBounds_toArray, List.set_cons_zero, List.set_cons_succ]
            refine take_in (i := 1) (v := .bool true) rfl (by kernel_rfl) (by kernel_rfl) (by kernel_rfl) (fun _ _ _ h => h) (by rfl) ?hy1c (by assumption) ?_
            case hy1c => intro WW hSw; (try dsimp only at hSw); go_simp; try with_reducible rfl
            try simp only [Act.put, List.setIfInBounds_toArray, List.set_cons_zero, List.set_cons_succ]
            refine take_out (i := 2) rfl (by kernel_rfl) (by kernel_rfl) (by kernel_rfl) (fun _ _ _ h => h) (by rfl) (by assumption) ?_
            try simp only [Act.put, List.setIfInBounds_toArray, List.set_cons_zero, List.set_cons_succ]
            refine take_out (i := 3) rfl (by kernel_rfl) (by kernel_rfl) (by kernel_rfl) (fun _ _ _ h => h) (by rfl) (by assumption) ?_
            try simp only [Act.put, List.setIfInBounds_toArray, List.set_cons_zero, List.set_cons_succ]
            refine take_out (i := 4) rfl (by kernel_rfl) (by kernel_rfl) (by kernel_rfl) (fun _ _ _ h => h) (by rfl) (by assumption) ?_
            try simp only [Act.put, List.setIfInBounds_toArray, List.set_cons_zero, List.set_cons_succ]
            refine take_out (i := 5) rfl (by kernel_rfl) (by kernel_rfl) (by kernel_rfl) (fun _ _ _ h => h) (by rfl) (by assumption) ?_
            try simp only [Act.put, List.setIfInBounds_toArray, List.set_cons_zero, List.set_cons_succ]
            refine take_out (i := 6) rfl (by kernel_rfl) (by kernel_rfl) (by kernel_rfl) (fun _ _ _ h => h) (by rfl) (by assumption) ?_
            try simp only [Act.put, List.setIfInBounds_toArray, List.set_cons_zero, List.set_cons_succ]
            refine take_out (i := 7) rfl (by kernel_rfl) (by kernel_rfl) (by kernel_rfl) (fun _ _ _ h => h) (by rfl) (by assumption) ?_
            try simp only [Act.put, List.setIfInBounds_toArray, List.set_cons_zero, List.set_cons_succ]
            refine take_out (i := 8) rfl (by kernel_rfl) (by kernel_rfl) (by kernel_rfl) (fun _ _ _ h => h) (by rfl) (by assumption) ?_
            try simp only [Act.put, List.setIfInBounds_toArray, List.set_cons_zero, List.set_cons_succ]
            refine take_out (i := 9) rfl (by kernel_rfl) (by kernel_rfl) (by kernel_rfl) (fun _ _ _ h => h) (by rfl) (by assumption) ?_
            try simp only [Act.put, List.setIfInBounds_toArray, List.set_cons_zero, List.set_cons_succ]
            refine take_out (i := 10) rfl (by kernel_rfl) (by kernel_rfl) (by kernel_rfl) (fun _ _ _ h => h) (by rfl) (by assumption) ?_
            try simp only [Act.put, List.setIfInBounds_toArray, List.set_cons_zero, List.set_cons_succ]
            refine take_out (i := 11) rfl (by kernel_rfl) (by kernel_rfl) (by kernel_rfl) (fun _ _ _ h => h) (by rfl) (by assumption) ?_
            try simp only [Act.put, List.setIfInBounds_toArray, List.set_cons_zero, List.set_cons_succ]
            refine take_out (i := 12) rfl (by kernel_rfl) (by kernel_rfl) (by kernel_rfl) (fun _ _ _ h => h) (by rfl) (by assumption) ?_
            try simp only [Act.put, List.setIfInBounds_toArray, List.set_cons_zero, List.set_cons_succ]
            refine take_out (i := 13) rfl (by kernel_rfl) (by kernel_rfl) (by kernel_rfl) (fun _ _ _ h => h) (by rfl) (by assumption) ?_
            try simp only [Act.put, List.setIfInBounds_toArray, List.set_cons_zero, List.set_cons_succ]
            refine take_out (i := 14) rfl (by kernel_rfl) (by kernel_rfl) (by kernel_rfl) (fun _ _ _ h => h) (by rfl) (by assumption) ?_
            try simp only [Act.put, List.setIfInBounds_toArray, List.set_cons_zero, List.set_cons_succ]
            refine take_in (i := 15) (v := .bool true) rfl (by kernel_rfl) (by kernel_rfl) (by kernel_rfl) (fun _ _ _ h => h) (by rfl) ?hy15c (by assumption) ?_
            case hy15c => intro WW hSw; (try dsimp only at hSw); go_simp; try with_reducible rfl
            try simp only [Act.put, List.setIfInBounds_toArray, List.set_cons_zero, List.set_cons_succ]
            refine take_in (i := 16) (v := .bool true) rfl (by kernel_rfl) (by kernel_rfl) (by kernel_rfl) (fun _ _ _ h => h) (by rfl) ?hy16c (by assumption) ?_
            case hy16c => intro WW hSw; (try dsimp only at hSw); go_simp; try with_reducible rfl
            try simp only [Act.put, List.setIfInBounds_toArray, List.set_cons_zero, List.set_cons_succ]
            refine wpAnyH_done (by kernel_rfl) ?_ _
            go_wp2
            go_roundg (gk - 1)
            case measure => have := HGQ.out; omega
            case rel => exact ⟨q + 1, true, by omega, by have := HGQ.out; omega, by go_num, rfl, ⟨by rw [HAT.out]; rfl⟩, (by repeat (first | exact HBX.out | apply below_drew))⟩
        · obtain rfl : q = n := by omega
          have hqq : ¬ (q : Int) < (q : Int) := by omega
          have hkn : kn = (v.k == 0 || anyT D v.s) := by rw [HK.out, List.take_of_length_le (by have := HN.out; omega), HVS.out.1, HVS.out.2]
          have hst := HST.out
          rw [stepD, ← hkn] at hst
          have HSD := Aside0.mk hst
          clear hkn hst HK
          cases kn
          · have hcr := HRB.out _ HBX.out
            have hcr0 := hcr 0
            have hcr1 := hcr 1
            have hOw : wr.ownsRow w.heap.size 9 1 (.slice AD q cD) q (textCells D) := by rw [HN.out]; exact own_at HO.out.1 (fun k hk _ => HBX.out.block k hk)
            have hsz9 : w.heap.size ≤ wr.heap.size := Nat.le_trans HO.out.2.2.size HBX.out.size
            have htx := HTX.out _ HBX.out
            have HBW := Aside0.mk (below_then HO.out.2.2 HBX.out)
            have hrbx := (HBXW.out _ HBW.out).cells
            have hrbf := (HBXW.out _ HBW.out).free
            clear hcr hcr0 hcr1
            have hgg : 0 < 1 := by omega
            go_upto_region 11 with (fail)
            go_wp2_with (at_builtin; go_loud (refine append_strB rfl (.tmp 56) (.tmp 65) rfl w.heap.size (.slice AD q cD) q (textCells D) rfl hOw s rfl (by omega) hsz9 ?_))
            intro v' W5 h1 h2
            have HO5 : Aside0 (W5.ownsRow w.heap.size 9 1 v' (D ++ [s]).length (textCells (D ++ [s]))) := ⟨by rw [textCells_snoc, List.length_append, ← HN.out]; exact h1⟩
            have HB5 := Aside0.mk (HBW.out.trans h2)
            have HD5 : Aside0 (D ++ [s] = dictR (us.take (j + 1))) := ⟨by rw [← HSD.out, if_neg Bool.false_ne_true, HVS.out.2]⟩
            clear h1 h2 hOw
            go_wp2
            go_roundg (G - 1)
            case measure => have := HG.out; have := HGE.out; omega
            case rel => exact ⟨j + 1, _, by omega, by have := HG.out; omega, by go_num, HD5, HO5.out, HB5.out⟩
          · go_wp2
            go_roundg (G - 1)
            case measure => have := HG.out; have := HGE.out; omega
            case rel => exact ⟨j + 1, D, by omega, by have := HG.out; omega, by go_num, ⟨by have h := HSD.out; rw [if_pos True.intro] at h; exact h⟩, by rw [HN.out]; exact own_at HO.out.1 (fun k hk _ => HBX.out.block k hk), below_then HO.out.2.2 HBX.out⟩
    · obtain rfl : j = m := by omega
      have hjj : ¬ (j : Int) < (j : Int) := by omega
      have e : us.take j = us := List.take_of_length_le (by have := HM.out; omega)
      have hD := HD.out
      rw [e] at hD
      obtain ⟨AD, cD, rfl, hrT⟩ := own_texts hO
      rw [hD] at hrT ⊢
      clear hO
      go_wp2
      go_ret
      exact ⟨AD, ⟨cD, rfl⟩, hrT, HB⟩
end Go.Proofs.YtbdbcbpcekpcoaaDoor
