/- Values as they are read; what a column takes in. -/
import Derived.Test.YtbdbcbpcekpcoaaDoorCvGet
import Derived.Test.YtbdbcbpcekpcoaaDoorSame
import Derived.Test.YtbdbcbpcekpcoaaDoorCvDict
set_option linter.unusedVariables false
set_option linter.unusedSimpArgs false
namespace Go.Proofs.YtbdbcbpcekpcoaaDoor
open Go.RowKit Go.Maps

/-- A value's fields, as the walks name them. -/
structure V5 where
  k : Int
  n : Int
  b : Bool
  s : ByteArray
  A : Option Addr
  p : List Int
  c : Nat
def V5.val (v : V5) : Value := .agg #[.int .i64 v.k, .bool v.b, .int .i64 v.n, .string v.s, .slice v.A v.p.length v.c]
def V5.cells (v : V5) : List Value := [.int .i64 v.k, .bool v.b, .int .i64 v.n, .string v.s, .slice v.A v.p.length v.c]
def V5.zero : V5 := ⟨0, 0, false, ⟨#[]⟩, none, [], 0⟩
/-- Five cells that hold a value. -/
structure Holds5 (W : World) (ad : Addr) (v : V5) : Prop where
  lt : ad.block < W.heap.size
  spot : ad.spot = none
  c0 : W.cell? ad = some (.int .i64 v.k)
  c1 : W.cell? ⟨ad.block, ad.off + 1, none⟩ = some (.bool v.b)
  c2 : W.cell? ⟨ad.block, ad.off + 2, none⟩ = some (.int .i64 v.n)
  c3 : W.cell? ⟨ad.block, ad.off + 3, none⟩ = some (.string v.s)
  c4 : W.cell? ⟨ad.block, ad.off + 4, none⟩ = some (.slice v.A v.p.length v.c)
/-- A slice of values, as it is read. -/
structure ReadsV (W : World) (A : Option Addr) (vs : List V5) : Prop where
  len : vs.length ≤ 9223372036854775807
  row : ∀ j, j < vs.length → ∃ ad, A = some ad ∧ Holds5 W (ad.add (j * 5)) (vs.getD j V5.zero)
  path : ∀ v ∈ vs, ReadsI W v.A v.p
  num : ∀ v ∈ vs, -9223372036854775808 ≤ v.n ∧ v.n ≤ 9223372036854775807
theorem add_spot (ad : Addr) (h : ad.spot = none) (n : Nat) : (ad.add n).spot = none := by
  obtain ⟨b, o, sp⟩ := ad
  simp only at h
  subst h
  unfold Addr.add
  split <;> rfl
theorem Holds5.below {W W' : World} {ad : Addr} {v : V5} (h : Holds5 W ad v) (hb : Below W.heap.size W W') : Holds5 W' ad v :=
  ⟨Nat.lt_of_lt_of_le h.lt hb.size, h.spot, (hb.cell h.lt).trans h.c0, (hb.cell (p := ⟨ad.block, ad.off + 1, none⟩) h.lt).trans h.c1, (hb.cell (p := ⟨ad.block, ad.off + 2, none⟩) h.lt).trans h.c2, (hb.cell (p := ⟨ad.block, ad.off + 3, none⟩) h.lt).trans h.c3, (hb.cell (p := ⟨ad.block, ad.off + 4, none⟩) h.lt).trans h.c4⟩
theorem ReadsV.below {W W' : World} {A : Option Addr} {vs : List V5} (h : ReadsV W A vs) (hb : Below W.heap.size W W') : ReadsV W' A vs :=
  ⟨h.len, fun j hj => by
    obtain ⟨ad, e, h5⟩ := h.row j hj
    exact ⟨ad, e, h5.below hb⟩, fun v hv => (h.path v hv).below hb, h.num⟩
/-- May a column of kind k take a value in? -/
def fitsV (k : Int) (v : V5) : Bool := rightB v.k v.b v.n v.s v.p && (v.k == k || v.k == 0)
/-- A column with a value more. -/
def pushV (s : VS) (v : V5) : VS :=
  if s.k = 6 then { s with nl := s.nl ++ [v.k == 0], il := s.il ++ [((s.hp ++ v.p).length : Int)], hp := s.hp ++ v.p }
  else if s.k = 1 then { s with nl := s.nl ++ [v.k == 0], bl := s.bl ++ [v.b] }
  else if v.k = 3 then { s with nl := s.nl ++ [v.k == 0], il := s.il ++ [((keysL s.dl).idxOf v.s.data.toList : Int)], dl := if v.s.data.toList ∈ keysL s.dl then s.dl else s.dl ++ [v.s] }
  else { s with nl := s.nl ++ [v.k == 0], il := s.il ++ [v.n] }
def stepV (s : VS) (v : V5) : VS := if fitsV s.k v then pushV s v else s
def errV (k : Int) (v : V5) : Int := if fitsV k v then 0 else 31
/-- A column's rows fit one another. -/
structure WF (s : VS) : Prop where
  k1 : 1 ≤ s.k
  k6 : s.k ≤ 6
  ints : ¬ s.k = 1 → s.il.length = s.nl.length
  bools : s.k = 1 → s.bl.length = s.nl.length
  dict : s.dl.length ≤ s.nl.length
  heap : s.hp.length ≤ 9 * s.nl.length
  nodup : (keysL s.dl).Nodup
theorem push_k (s : VS) (v : V5) : (pushV s v).k = s.k := by
  unfold pushV
  split
  · rfl
  split
  · rfl
  split <;> rfl
theorem push_len (s : VS) (v : V5) : (pushV s v).nl = s.nl ++ [v.k == 0] := by
  unfold pushV
  split
  · rfl
  split
  · rfl
  split <;> rfl
theorem wf_new (k : Int) (h : 1 ≤ k ∧ k ≤ 6) : WF (VS.new k) := ⟨h.1, h.2, fun _ => rfl, fun _ => rfl, Nat.le_refl _, Nat.zero_le _, List.nodup_nil⟩
theorem right_path {k n : Int} {b : Bool} {s : ByteArray} {p : List Int} (h : rightB k b n s p = true) : p.length ≤ 9 := by
  unfold rightB at h
  split at h
  · simp at h; simp [h.2]
  split at h
  · simp at h; simp [h.2]
  split at h
  · simp at h; simp [h.2]
  split at h
  · simp at h; simp [h.1.2]
  split at h
  · simp at h; simp [h.1.2]
  split at h
  · simp at h; exact h.1.2
  · cases h
theorem wf_push (s : VS) (v : V5) (h : WF s) (hf : fitsV s.k v = true) : WF (pushV s v) := by
  have hp : v.p.length ≤ 9 := by
    unfold fitsV at hf
    rw [Bool.and_eq_true] at hf
    exact right_path hf.1
  have e := push_len s v
  refine ⟨by rw [push_k]; exact h.k1, by rw [push_k]; exact h.k6, fun hk => ?_, fun hk => ?_, ?_, ?_, ?_⟩
  · rw [push_k] at hk
    rw [e]
    have := h.ints hk
    unfold pushV
    repeat' split
    all_goals first | omega | (simp only [List.length_append, List.length_cons, List.length_nil]; omega)
  · rw [push_k] at hk
    rw [e]
    have := h.bools hk
    unfold pushV
    rw [if_neg (by omega), if_pos hk]
    simp [this]
  · rw [e]
    have := h.dict
    unfold pushV
    repeat' split
    all_goals (simp only [List.length_append, List.length_cons, List.length_nil]; omega)
  · rw [e]
    have := h.heap
    unfold pushV
    repeat' split
    all_goals (simp only [List.length_append, List.length_cons, List.length_nil]; omega)
  · have := h.nodup
    unfold pushV
    repeat' split
    all_goals first
      | exact this
      | (simp only [keysL_snoc]
         refine List.nodup_append.2 ⟨this, by simp, ?_⟩
         intro a ha c hc e
         simp at hc
         subst hc
         subst e
         contradiction)
theorem vecIs_mono {W : World} {F G : Nat → Prop} {b : Nat} {s : VS} (h : VecIs W F b s) (hG : ∀ k, F k → G k) : VecIs W G b s := by
  obtain ⟨nv, bv, iv, dv, hv, m, hV⟩ := h
  exact ⟨nv, bv, iv, dv, hv, m, { hV with fb := hG _ hV.fb, fm := hG _ hV.fm, fn := fun k e => hG _ (hV.fn k e), fbl := fun k e => hG _ (hV.fbl k e), fi := fun k e => hG _ (hV.fi k e), fd := fun k e => hG _ (hV.fd k e), fh := fun k e => hG _ (hV.fh k e) }⟩
theorem vecIs_at {W W' : World} {F : Nat → Prop} {b : Nat} {s : VS} (h : VecIs W F b s) (hk : ∀ k, k < W.heap.size → F k → W'.heap[k]? = W.heap[k]?) : VecIs W' F b s := by
  obtain ⟨nv, bv, iv, dv, hv, m, hV⟩ := h
  exact ⟨nv, bv, iv, dv, hv, m, { hV with
    box := hV.box.at_ (hk b hV.box.lt hV.fb)
    nulls := own_at hV.nulls (fun k hl e => hk k hl (hV.fn k e))
    bools := own_at hV.bools (fun k hl e => hk k hl (hV.fbl k e))
    ints := own_at hV.ints (fun k hl e => hk k hl (hV.fi k e))
    dict := own_at hV.dict (fun k hl e => hk k hl (hV.fd k e))
    heap := own_at hV.heap (fun k hl e => hk k hl (hV.fh k e))
    known := map_at hV.known (hk m hV.known.lt hV.fm) }⟩
/-- How many values a column of kind k may have, so that its rows fit memory. -/
def room (k : Int) : Nat := if k = 1 ∨ k = 6 then 100000000000 else 8796093022207
theorem room_ge (k : Int) : 100000000000 ≤ room k := by unfold room; split <;> omega
theorem room_le (k : Int) : room k ≤ 8796093022207 := by unfold room; split <;> omega
theorem room_num {k : Int} (h : ¬ (k = 1 ∨ k = 6)) : room k = 8796093022207 := if_neg h
/-- A value is taken in, or refused, as it should be, by a column of kind k. -/
def AppOk (k : Int) (v : V5) : Prop := ∀ (F : Nat → Prop) (b : Nat) (s : VS) (w : World), VecIs w F b s → s.k = k → WF s → s.nl.length ≤ room k → ReadsI w v.A v.p →
  Calls Tryd.prog 12 #[.pointer (some ⟨b, 0, none⟩), v.val] w fun e w' => e = .returned (.int .i64 (errV k v)) ∧ VecIs w' (orNew F w) b (stepV s v) ∧ KeptBut F w w'
theorem appOk_num (k : Int) (v : V5) (hk : k = 2 ∨ k = 4 ∨ k = 5) (hv : v.k = k ∨ v.k = 0) (hr : rightB v.k v.b v.n v.s v.p = true) : AppOk k v := by
  intro F b s w hV hs hwf hN hrd
  rw [room_num (by omega)] at hN
  obtain ⟨vk, vn, vb, vs, vA, vp, vc⟩ := v
  simp only at hv hr hrd
  have hfit : fitsV k ⟨vk, vn, vb, vs, vA, vp, vc⟩ = true := by
    unfold fitsV
    simp only [hr, Bool.true_and, Bool.or_eq_true, beq_iff_eq]
    exact hv
  have hil := hwf.ints (by omega)
  have hst : stepV s ⟨vk, vn, vb, vs, vA, vp, vc⟩ = { s with nl := s.nl ++ [vk == 0], il := s.il ++ [vn] } := by
    rw [stepV, hs, if_pos hfit, pushV, if_neg (by omega), if_neg (by omega), if_neg (by simp only; omega)]
    simp only [hs]
  have her : errV k ⟨vk, vn, vb, vs, vA, vp, vc⟩ = 0 := if_pos hfit
  rw [hst, her]
  rcases hv with rfl | rfl
  · have e0 : (vk == 0) = false := by rw [beq_eq_false_iff_ne]; omega
    rw [e0]
    exact app_same vk vn vb vs vA vp vc F b s w hV hs (by omega) hrd hr (by omega) hil
  · exact app_null k vn vb vs vA vp vc F b s w hV hs (by omega) hrd hr (by omega) hil
end Go.Proofs.YtbdbcbpcekpcoaaDoor
