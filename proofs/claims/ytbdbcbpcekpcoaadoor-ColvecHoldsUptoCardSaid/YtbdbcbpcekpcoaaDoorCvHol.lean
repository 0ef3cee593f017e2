/- The law's copied: values on their own. The document's Append, with the blocks that it leaves. What holds while ColvecHolds puts values into both columns. -/
import Derived.Test.YtbdbcbpcekpcoaaDoorCvSm
import Derived.Test.YtbdbcbpcekpcoaaDoorLCvGa
set_option linter.unusedVariables false
set_option linter.unusedSimpArgs false
namespace Go.Proofs.YtbdbcbpcekpcoaaDoor
open Go.RowKit

open Go.RowKit Go.Maps

/-- A path that is an own row. -/
def PathOwn (W : World) (B : Nat) (u : V5) : Prop := W.ownsRow B 2 1 (.slice u.A u.p.length u.c) u.p.length (numCells u.p)
/-- Paths of two values lie in two rows. -/
def ApartP (u v : V5) : Prop := ∀ a b, u.A = some a → v.A = some b → 0 < u.p.length → 0 < v.p.length → a.block ≠ b.block
/-- Values on their own. -/
structure Cop (W : World) (B : Nat) (rv : Value) (us : List V5) : Prop where
  own : OwnV W B rv us
  path : ∀ u ∈ us, PathOwn W B u
  apart : us.Pairwise ApartP
  sep : ∀ u ∈ us, ∀ a, u.A = some a → rv.ownBlock ≠ some a.block
theorem below_grow {B : Nat} {w0 w w' : World} {row : Option Nat} (h : Below B w0 w) (hB : B ≤ w0.heap.size) (hg : w.grownBy w' row) (hr : ∀ k, row = some k → B ≤ k) : Below B w0 w' := by
  refine ⟨hg.os.trans h.os, hg.tape.trans h.tape, hg.output.trans h.output, Nat.le_trans h.size hg.size, fun k hk => ?_⟩
  exact (hg.block k (by have := h.size; omega) (fun e => by have := hr k e.symm; omega)).trans (h.block k hk)
theorem pathOwn_reads {W : World} {B : Nat} {v : Value} {p : List Int} (h : W.ownsRow B 2 1 v p.length (numCells p)) : ∃ A c, v = .slice A p.length c ∧ ReadsI W A p := by
  obtain ⟨A, c, rfl, hl⟩ := row_shape h
  refine ⟨A, c, rfl, hl, fun hp => ?_⟩
  have h' := h
  rcases h with ⟨hl, ⟨e, h0⟩ | ⟨g, cap, cur, e, hg, hh, hn, hm, hs, htk⟩⟩
  · omega
  · cases e
    refine ⟨_, rfl, fun j hj => ?_⟩
    rw [add_0 g j, World.ownsRow.cellAt h' j (by omega)]
    simp [numCells, List.getD, hj]
theorem pathOwn_lt {W : World} {B : Nat} {u : V5} (h : PathOwn W B u) {a : Addr} (e : u.A = some a) : B ≤ a.block ∧ a.block < W.heap.size := by
  obtain ⟨uk, un, ub, us, uA, up, uc⟩ := u
  simp only at e
  subst e
  exact h.lt a.block rfl
theorem pathOwn_at {W W' : World} {B : Nat} {u : V5} (h : PathOwn W B u) (hk : ∀ a, u.A = some a → W'.heap[a.block]? = W.heap[a.block]?) : PathOwn W' B u := by
  obtain ⟨uk, un, ub, us, uA, up, uc⟩ := u
  refine own_at h (fun k hk1 e => ?_)
  cases uA with
  | none => cases e
  | some a => cases e; exact hk a rfl
theorem own_mono {W : World} {B B' : Nat} {e : TypeId} {z : Nat} {v : Value} {n : Nat} {xs : List Value} (h : W.ownsRow B' e z v n xs) (hB : B ≤ B') : W.ownsRow B e z v n xs := by
  rcases h with ⟨h1, h2 | ⟨g, cap, cur, e1, e2, e3⟩⟩
  · exact ⟨h1, .inl h2⟩
  · exact ⟨h1, .inr ⟨g, cap, cur, e1, Nat.le_trans hB e2, e3⟩⟩
/-- One value more on its own. -/
theorem Cop.snoc {wr W1 W3 W5 : World} {B : Nat} {rv v5 : Value} {us : List V5} {u : V5} (h : Cop wr B rv us) (hB : B ≤ wr.heap.size) (hB3 : Below wr.heap.size wr W3) (h1 : wr.heap.size ≤ W1.heap.size) (hp : W3.ownsRow W1.heap.size 2 1 (.slice u.A u.p.length u.c) u.p.length (numCells u.p)) {o : Obj}
    (hO5 : OwnV W5 B v5 (us ++ [u])) (hg5 : (W3.alloc o).grownBy W5 rv.ownBlock) (hat5 : v5.ownBlock = rv.ownBlock ∨ v5.ownBlock = some (W3.alloc o).heap.size) : Cop W5 B v5 (us ++ [u]) := by
  have hlt : ∀ x ∈ us, ∀ a, x.A = some a → a.block < wr.heap.size := fun x hx a e => (pathOwn_lt (h.path x hx) e).2
  have hu : ∀ a, u.A = some a → W1.heap.size ≤ a.block ∧ a.block < W3.heap.size := fun a e => by
    obtain ⟨uk, un, ub, us', uA, up, uc⟩ := u
    simp only at e
    subst e
    exact hp.lt a.block rfl
  have hown : ∀ k, rv.ownBlock = some k → k < wr.heap.size := fun k e => (h.own.row.lt k e).2
  have h3 := hB3.size
  have hblk : ∀ k, k < W3.heap.size → rv.ownBlock ≠ some k → W5.heap[k]? = W3.heap[k]? := fun k hk hne => (hg5.block k (by simp; omega) (fun e => hne e.symm)).trans (heap_alloc_old W3 o hk)
  refine ⟨hO5, fun x hx => ?_, ?_, fun x hx a e e2 => ?_⟩
  · rcases List.mem_append.1 hx with hx | hx
    · exact pathOwn_at (h.path x hx) (fun a e => (hblk a.block (by have := hlt x hx a e; omega) (h.sep x hx a e)).trans (hB3.block _ (hlt x hx a e)))
    · simp at hx
      subst hx
      have hp2 : PathOwn W3 B x := own_mono hp (by omega)
      exact pathOwn_at hp2 (fun a e => hblk a.block (hu a e).2 (fun e2 => by have := hown _ e2; have := (hu a e).1; omega))
  · rw [List.pairwise_append]
    refine ⟨h.apart, List.pairwise_singleton _ _, fun x hx y hy a b ea eb _ _ => ?_⟩
    simp at hy
    subst hy
    have := hlt x hx a ea
    have := (hu b eb).1
    omega
  · have hal : a.block < W3.heap.size := by
      rcases List.mem_append.1 hx with hx | hx
      · have := hlt x hx a e; omega
      · simp at hx
        subst hx
        exact (hu a e).2
    rcases hat5 with g | g
    · rw [g] at e2
      rcases List.mem_append.1 hx with hx | hx
      · exact h.sep x hx a e e2
      · simp at hx
        subst hx
        have := hown _ e2
        have := (hu a e).1
        omega
    · rw [g] at e2
      simp at e2
      omega
theorem append_path {W : World} {ops : Array Oper} {rest : List Oper} {o : Oper} {a : Act} {Q : Exit → Act → World → Prop} (hgd : o.guard = none) (s x : Operand)
    (ho : o.op = .call { callee := .builtin .append, args := #[s, x], argTypes := #[37, 37] }) (B : Nat)
    (v : Value) (hs : a.eval s = v) (hown : W.ownsRow B 2 1 v 0 []) (hB : B ≤ W.heap.size) (A : Option Addr) (p : List Int) (c : Nat) (hx : a.eval x = .slice A p.length c) (hr : ReadsI W A p)
    (hn : p.length ≤ 1000000000000)
    (h : ∀ v' w', w'.ownsRow B 2 1 v' p.length (numCells p) → W.grownBy w' v.ownBlock → (v'.ownBlock = v.ownBlock ∨ v'.ownBlock = some W.heap.size) → wpList Tryd.prog ops Q rest (a.put o.dst v') w') :
    wpList Tryd.prog ops Q (o :: rest) a W := by
  refine wpList_plain hgd fun K' hK' => ?_
  obtain ⟨i0, hi, hz0, hz1, hz2⟩ := info_parts info_i64
  cases A with
  | some ad =>
    obtain ⟨v', w', hrun, h2, h3, _, h5⟩ := run_append_own_at (P := Tryd.prog) W B 37 o.type 2 i0 (.int .i64 0) 1 8 Tryd.underlying37 hi hz0 hz1 hz2 rfl (by decide) v 0 [] hown ad p.length c (numCells p) (by rw [numCells_len]; omega) (fun j u hj => by
      have hjl : j < p.length := by
        have := (List.getElem?_eq_some_iff.1 hj).1
        simpa [numCells] using this
      obtain ⟨ad', e, hc⟩ := hr.at_ j hjl
      cases e
      rw [hc]
      simp [numCells, hjl] at hj
      rw [← hj]
      simp [List.getD, hjl]) (by intro u hu; simp [numCells] at hu; obtain ⟨y, _, rfl⟩ := hu; rfl) (by unfold maxLen; omega) (by omega) hB
    unfold Oper.wp execOp
    simp only [ho, resolve, invoke, builtin, Sem.run_bind, Sem.run_pure, Result.andThen_ok, List.map_toArray, List.map_cons, List.map_nil, hs, hx, hrun]
    exact hK' _ _ (h v' w' (by simpa using h2) h3 h5)
  | none =>
    obtain rfl : p = [] := by
      rcases Nat.eq_zero_or_pos p.length with e | e
      · exact List.length_eq_zero_iff.1 e
      · obtain ⟨ad, e, _⟩ := hr.2 e
        cases e
    obtain ⟨base, cap, hv, hle⟩ : ∃ base cap, v = .slice base 0 cap ∧ 0 ≤ cap := by
      rcases hown.2 with ⟨e1, e2⟩ | ⟨g, cap, cur, e1, hg, hh, hn, hm, hs, htk⟩
      · exact ⟨none, 0, e1, by omega⟩
      · exact ⟨_, cap, e1, hn⟩
    have hrun := run_append_nothing (P := Tryd.prog) W 37 37 o.type 2 i0 Tryd.underlying37 hi base 0 cap hle (.slice none 0 c) (Src.ofNil W Tryd.underlying37 c)
    have hx' : a.eval x = .slice none 0 c := hx
    rw [hv] at hs
    unfold Oper.wp
    simp [execOp, ho, resolve, invoke, builtin, hs, hx', hrun, Result.andThen]
    rw [← hv]
    exact hK' _ _ (h v W hown (World.grownBy.refl _ _) (.inl rfl))
theorem own_empty64 (W : World) : (W.alloc (.cells #[] 2)).ownsRow W.heap.size 2 1 (.slice (some ⟨W.heap.size, 0, none⟩) 0 0) 0 [] :=
  ⟨rfl, .inr ⟨W.heap.size, 0, #[], rfl, Nat.le_refl _, heap_alloc_new W _, Nat.le_refl _, Nat.zero_le _, rfl, rfl⟩⟩
set_option maxRecDepth 100000 in
set_option maxHeartbeats 6400000 in
theorem copied_any (A : Option Addr) (vs : List V5) (c : Nat) (w : World) (hr : ReadsV w A vs) (hN : vs.length ≤ 100000000) (hpl : ∀ v ∈ vs, v.p.length ≤ 1000000000000) :
    Calls Tryd.prog 6 #[.slice A vs.length c] w fun e w' => (∃ rv, e = .returned rv ∧ Aside0 (∃ us, Cop w' w.heap.size rv us ∧ EqR us vs)) ∧ Below w.heap.size w w' := by
  have hld : ∀ W : World, Sem.run Tryd.prog (pure (#[] : Array Value)) W = .ok #[] W := fun _ => rfl
  have hst : ∀ (ad : Addr) (W : World), Sem.run Tryd.prog (storeCells ad ([] : List Value) 0) W = .ok () W := fun _ _ => rfl
  have hl0 : ∀ (ad : Addr) (W : World), Sem.run Tryd.prog (loadCellsFrom ad 0 0 #[]) W = .ok #[] W := fun _ _ => rfl
  obtain ⟨m, hm⟩ : ∃ m, m = vs.length := ⟨_, rfl⟩
  have HM := Aside0.mk hm
  have HR := Aside0.mk hr
  have HPL := Aside0.mk hpl
  rw [← hm] at hN ⊢
  have hN9 : (m : Int) ≤ 100000000 := by omega
  clear hr hm hpl
  go_enter Tryd.func6, Tryd.ntmps6
  go_wp2
  go_loopg [3, 4] (m + 1) (fun gg s3 s4 wr => ∃ (j : Nat) (us : List V5), j ≤ m ∧ m < gg + j ∧ s4 = .int .i64 j ∧ us.length = j ∧ Aside0 (∀ i, i < us.length → Eq5 (us.getD i V5.zero) (vs.getD i V5.zero)) ∧ Cop wr w.heap.size s3 us ∧ Below w.heap.size w wr)
  case atStart => exact ⟨0, [], by omega, by omega, rfl, rfl, ⟨fun i hi => absurd hi (by simp)⟩, ⟨ownV_nil _ _, fun u hu => (by cases hu), List.Pairwise.nil, fun u hu => (by cases hu)⟩, Below.refl _ _⟩
  case round =>
    obtain ⟨j, us, hj, hg, rfl, hul, HE, hC, HB⟩ := hrel
    have hj0 : (0 : Int) ≤ (j : Int) := by omega
    by_cases hlt : j < m
    · have hlti : (j : Int) < (m : Int) := by omega
      have hjl : j < vs.length := by have := HM.out; omega
      have hRB := HR.out.below HB
      obtain ⟨ad, rfl, hh⟩ := hRB.row j hjl
      have hmem : vs.getD j V5.zero ∈ vs := by rw [List.getD_eq_getElem?_getD, List.getElem?_eq_getElem hjl]; exact List.getElem_mem _
      have hp := hRB.path _ hmem
      have hnm := HR.out.num _ hmem
      have hpl := HPL.out _ hmem
      obtain ⟨v, hv⟩ : ∃ v, v = vs.getD j V5.zero := ⟨_, rfl⟩
      have HVJ := Aside0.mk hv
      rw [← hv] at hh hp hnm hpl
      clear hv
      obtain ⟨vk, vn, vb, vss, vA, vp, vc⟩ := v
      obtain ⟨hb, hsp, c0, c1, c2, c3, c4⟩ := hh
      simp only at c0 c1 c2 c3 c4 hp hnm hpl
      have HC := Aside0.mk (And.intro hC (And.intro hul HB))
      have HG := Aside0.mk (And.intro hj hg)
      have HP := Aside0.mk (And.intro hp (And.intro hnm hpl))
      have hbne : (ad.add (j * 5)).block ≠ wr.heap.size := by omega
      clear hC hul HB hj hg hp hnm hpl hRB hmem
      -- the box
      obtain ⟨bx, hbx⟩ : ∃ bx, bx = wr.heap.size := ⟨_, rfl⟩
      obtain ⟨W1, hW1⟩ : ∃ W1, W1 = wr.alloc (.cells #[.int .i64 vk, .bool vb, .int .i64 vn, .string vss, .slice vA vp.length vc] 39) := ⟨_, rfl⟩
      have hx1 : Box W1 bx #[.int .i64 vk, .bool vb, .int .i64 vn, .string vss, .slice vA vp.length vc] := by rw [hW1, hbx]; exact Box.new wr _
      have HB1 : Below wr.heap.size wr W1 := by rw [hW1]; exact below_more (Below.refl _ _) _
      go_upto_region 6 with (fail)
      rw [← hW1]
      have hbw1 : bx < W1.heap.size := hx1.lt
      have hwb : wr.heap.size ≤ bx := by omega
      have HBX := Aside0.mk hbx
      rw [← hbx]
      clear hbx hW1 hb c0 c1 c2 c3 c4 hbne
      have hxc := hx1.cells
      have hxf := hx1.free
      have hne1 : bx ≠ W1.heap.size := by omega
      -- the path
      have hown0 := own_empty64 W1
      have HP2 : Aside0 (ReadsI (W1.alloc (.cells #[] 2)) vA vp) := ⟨(HP.out.1.below HB1).below (below_more (Below.refl _ _) _)⟩
      have hB1s : W1.heap.size ≤ (W1.alloc (.cells #[] 2)).heap.size := by simp
      go_wp2_with (at_builtin; go_loud (refine append_path (W := W1.alloc (.cells #[] 2)) rfl (.tmp 16) (.tmp 18) rfl W1.heap.size (.slice (some ⟨W1.heap.size, 0, none⟩) 0 0) rfl hown0 hB1s vA vp vc rfl HP2.out HP.out.2.2 ?_))
      intro v2 W2 hO2 hg2 hat2
      have hB12 : Below W1.heap.size W1 W2 := below_grow (w0 := W1) (below_more (Below.refl _ _) _) (Nat.le_refl _) hg2 (fun k e => by simp [Value.ownBlock] at e; omega)
      have hx2 : Box W2 bx #[.int .i64 vk, .bool vb, .int .i64 vn, .string vss, .slice vA vp.length vc] := hx1.at_ (hB12.block _ hbw1)
      have HB2 : Below wr.heap.size wr W2 := below_then HB1 hB12
      obtain ⟨A2, c2, rfl, hrd2⟩ := pathOwn_reads hO2
      have HO2 := Aside0.mk hO2
      have HS12 : Aside0 (W1.heap.size ≤ W2.heap.size) := ⟨hB12.size⟩
      have hxc2 := hx2.cells
      have hxf2 := hx2.free
      clear hO2 hg2 hat2 hB12 hrd2 HP2 hown0 hxc hxf hx1 hB1s
      go_upto_region 7 with (fail)
      obtain ⟨W3, hW3⟩ : ∃ W3, W3 = W2.setCell ⟨bx, 4, none⟩ (.slice A2 vp.length c2) := ⟨_, rfl⟩
      rw [← hW3]
      have hx3 : Box W3 bx #[.int .i64 vk, .bool vb, .int .i64 vn, .string vss, .slice A2 vp.length c2] := by rw [hW3]; exact hx2.put 4 _
      have HB3 : Below wr.heap.size wr W3 := by rw [hW3]; exact below_set HB2 (p := ⟨bx, 4, none⟩) hwb _
      have HO3 : Aside0 (W3.ownsRow W1.heap.size 2 1 (.slice A2 vp.length c2) vp.length (numCells vp)) := ⟨own_at HO2.out (fun k hk e => by
        rw [hW3]
        have := (HO2.out.lt k e).1
        exact heap_setCell_other _ _ _ _ (show k ≠ bx by omega))⟩
      have hxc3 := hx3.cells
      have hxf3 := hx3.free
      have HSB : Aside0 (wr.heap.size ≤ W1.heap.size ∧ bx < W1.heap.size) := ⟨by have := HB1.size; exact ⟨this, hbw1⟩⟩
      clear hW3 hxc2 hxf2 hx2 HO2
      have hrdN : ReadsI W3 A2 vp := by
        obtain ⟨A', c', e, h⟩ := pathOwn_reads HO3.out
        cases e
        exact h
      have HOW : Aside0 (OwnV (W3.alloc (.cells #[.int .i64 vk, .bool vb, .int .i64 vn, .string vss, .slice A2 vp.length c2] 39)) w.heap.size u3 us) := ⟨(HC.out.1.own.below HB3).below (below_more (Below.refl _ _) _)⟩
      have HRN : Aside0 (ReadsV (W3.alloc (.cells #[.int .i64 vk, .bool vb, .int .i64 vn, .string vss, .slice A2 vp.length c2] 39)) (some ⟨W3.heap.size, 0, none⟩) [⟨vk, vn, vb, vss, A2, vp, c2⟩]) := ⟨readsV_new W3 ⟨vk, vn, vb, vss, A2, vp, c2⟩ hrdN HP.out.2.1⟩
      have HAP : Aside0 (∀ a, A2 = some a → u3.ownBlock ≠ some a.block) := ⟨fun a e e2 => by
        subst e
        have h1 := (HO3.out.lt a.block rfl).1
        have h2 := (HC.out.1.own.row.lt a.block e2).2
        have h3 := HSB.out.1
        omega⟩
      have HBS : Aside0 (w.heap.size ≤ wr.heap.size) := ⟨HC.out.2.2.size⟩
      have hbs3 : w.heap.size ≤ W3.heap.size := by have := HB3.size; have := HBS.out; omega
      have HB3X := Aside0.mk HB3
      clear hrdN HB3 HB1 HB2
      go_wp2_with (at_builtin; go_loud (refine wpList_plain rfl fun K' hK' => ?_; refine append_valsG (W := W3.alloc (.cells #[.int .i64 vk, .bool vb, .int .i64 vn, .string vss, .slice A2 vp.length c2] 39)) (.tmp 21) (.tmp 23) rfl w.heap.size u3 us rfl HOW.out (by simp; omega) (some ⟨W3.heap.size, 0, none⟩) [⟨vk, vn, vb, vss, A2, vp, c2⟩] 1 rfl HRN.out ?hap (by have := HC.out.2.1; simp; omega) ?_))
      case hap => intro u hu a e hp; simp at hu; subst hu; exact HAP.out a e
      intro v5 W5 hO5 hb5 hg5 hat5
      have HC5 := Aside0.mk (Cop.snoc (u := ⟨vk, vn, vb, vss, A2, vp, c2⟩) HC.out.1 HBS.out HB3X.out HSB.out.1 HO3.out hO5 hg5 (by simpa using hat5))
      have HB5 := Aside0.mk ((below_then HC.out.2.2 HB3X.out).trans ((balloc (Below.refl _ _) hbs3 _).trans hb5))
      have HE5 : Aside0 (∀ i, i < (us ++ [(⟨vk, vn, vb, vss, A2, vp, c2⟩ : V5)]).length → Eq5 ((us ++ [(⟨vk, vn, vb, vss, A2, vp, c2⟩ : V5)]).getD i V5.zero) (vs.getD i V5.zero)) := ⟨fun i hi => by
        rw [List.length_append, List.length_cons, List.length_nil] at hi
        by_cases hlt' : i < us.length
        · rw [getD_snoc_lt _ _ _ _ hlt']
          exact HE.out i hlt'
        · obtain rfl : i = us.length := by omega
          rw [getD_snoc_eq, HC.out.2.1, ← HVJ.out]
          exact ⟨rfl, rfl, rfl, rfl, rfl⟩⟩
      have HL5 : Aside0 ((us ++ [(⟨vk, vn, vb, vss, A2, vp, c2⟩ : V5)]).length = j + 1) := ⟨by rw [List.length_append, HC.out.2.1]; rfl⟩
      clear hO5 hb5 hg5 hat5
      refine hK' _ _ ?_
      clear hK' K'
      go_wp2
      go_roundg (gk - 1)
      case measure => have := HG.out; omega
      case rel => exact ⟨j + 1, _, by omega, by have := HG.out; omega, by go_num, HL5.out, HE5, HC5.out, HB5.out⟩
    · obtain rfl : j = m := by omega
      have hjj : ¬ (j : Int) < (j : Int) := by omega
      go_wp2
      go_ret
      exact ⟨⟨_, rfl, ⟨us, hC, ⟨by have := HM.out; omega, fun i hi => HE.out i (by have := HM.out; omega)⟩⟩⟩, HB⟩
open Go.RowKit Go.Maps

set_option maxRecDepth 100000 in
set_option maxHeartbeats 3200000 in
theorem rapp_all (k : Int) (rb B : Nat) (us : List V5) (rv : Value) (v : V5) (w : World) (h : RV w B k rb us rv) (hT : Lib.Utf8Tabs 0 1 w) (hrd : ReadsI w v.A v.p) (hss : v.s.size ≤ 9223372036854775807) (hold : ∀ a, v.A = some a → 0 < v.p.length → a.block < B) (hn : us.length ≤ 100000000000) (hnum : -9223372036854775808 ≤ v.n ∧ v.n ≤ 9223372036854775807) :
    Calls Tryd.prog 13 #[.pointer (some ⟨rb, 0, none⟩), v.val] w fun e w' => e = .returned (.int .i64 (errV k v)) ∧ (∃ rv', RV w' B k rb (if fitsV k v then us ++ [v] else us) rv' ∧ (rv'.ownBlock = rv.ownBlock ∨ ∀ j, rv'.ownBlock = some j → w.heap.size ≤ j)) ∧ Below B w w' ∧ KeptBut (fun j => rv.ownBlock = some j ∨ j = rb) w w' := by
  obtain ⟨vk, vn, vb, vss, vA, vp, vc⟩ := v
  simp only at hrd hss hold hnum
  unfold V5.val
  obtain ⟨W1, hW1⟩ : ∃ W1, W1 = w.alloc (.cells #[.int .i64 vk, .bool vb, .int .i64 vn, .string vss, .slice vA vp.length vc] 39) := ⟨_, rfl⟩
  have hx1 : Box W1 w.heap.size #[.int .i64 vk, .bool vb, .int .i64 vn, .string vss, .slice vA vp.length vc] := by rw [hW1]; exact Box.new w _
  have HB1 : Below w.heap.size w W1 := by rw [hW1]; exact below_more (Below.refl _ _) _
  have hrr := rright_any vk vn vb vss vA vp vc W1 (hrd.below HB1) hss (Utf8Tabs_below hT HB1)
  have HF : Aside0 (fitsV k ⟨vk, vn, vb, vss, vA, vp, vc⟩ = (rightB vk vb vn vss vp && (vk == k || vk == 0))) := ⟨rfl⟩
  obtain ⟨R, hR⟩ : ∃ R, R = rightB vk vb vn vss vp := ⟨_, rfl⟩
  rw [← hR] at hrr HF
  have HV := Aside0.mk h
  have HP := Aside0.mk (And.intro hrd (And.intro hold hnum))
  have hBs := h.size
  obtain ⟨A5, c5, rfl, hrd5⟩ := h.own.reads
  have HXN : Aside0 (∀ j, (Value.slice A5 us.length c5).ownBlock = some j → j < w.heap.size) := ⟨fun j e => (h.own.row.lt j e).2⟩
  obtain ⟨RL, hRL⟩ : ∃ RL, RL = if fitsV k ⟨vk, vn, vb, vss, vA, vp, vc⟩ then us ++ [⟨vk, vn, vb, vss, vA, vp, vc⟩] else us := ⟨_, rfl⟩
  obtain ⟨RE, hRE⟩ : ∃ RE, RE = errV k ⟨vk, vn, vb, vss, vA, vp, vc⟩ := ⟨_, rfl⟩
  rw [← hRL, ← hRE]
  have HRR := Aside0.mk (And.intro hRL hRE)
  have hxc := hx1.cells
  have hxf := hx1.free
  clear hR h hrd hold hT hrd5 hRL hRE
  go_enter Tryd.func13, Tryd.ntmps13
  go_upto_region 1 with (fail)
  rw [← hW1]
  clear hW1
  go_upto_region 2 with (go_at_call 32; go_loud (refine hrr.mono ?_))
  first
    | (intro e W2 he hb2; subst he)
    | rintro e W2 ⟨rfl, hb2⟩
  have HB2 : Below w.heap.size w W2 := below_then HB1 hb2
  have hx2 : Box W2 w.heap.size #[.int .i64 vk, .bool vb, .int .i64 vn, .string vss, .slice vA vp.length vc] := hx1.at_ (hb2.block _ hx1.lt)
  have HV2 := Aside0.mk (HV.out.below HB2)
  have hr2 := HV2.out.box
  have hlx : w.heap.size < W2.heap.size := hx2.lt
  have hlr : rb < W2.heap.size := hr2.lt
  have HLX : Aside0 (∀ WW, Below W2.heap.size W2 WW → ∀ j, WW.cell? ⟨w.heap.size, j, none⟩ = (#[.int .i64 vk, .bool vb, .int .i64 vn, .string vss, .slice vA vp.length vc] : Array Value)[j]?) := ⟨fun WW h => (hx2.at_ (h.block _ hlx)).cells⟩
  have HLR : Aside0 (∀ WW, Below W2.heap.size W2 WW → ∀ j, WW.cell? ⟨rb, j, none⟩ = (#[.int .i64 k, .slice A5 us.length c5] : Array Value)[j]?) := ⟨fun WW h => (hr2.at_ (h.block _ hlr)).cells⟩
  have HBB := Aside0.mk HB2
  have HX2 := Aside0.mk hx2
  obtain ⟨bx, hbx⟩ : ∃ bx, bx = w.heap.size := ⟨_, rfl⟩
  rw [← hbx] at hxc HLX HX2 hlx ⊢
  have HBX := Aside0.mk hbx
  have HNE : Aside0 (bx ≠ rb) := ⟨by have := HV.out.box.lt; omega⟩
  clear hbx
  clear hrr hb2 hx1 hx2 hr2 HB1 HB2 hxc hxf HV hlx hlr
  cases R
  · skip
    go_upto_region 2 with (fail)
    refine wp_region_held_drew (S := (fun WW => Below W2.heap.size W2 WW)) (by kernel_rfl) ?_ (fun hHeld => ?_)
    · first | exact Below.refl _ _ | exact below_drew (Below.refl _ _)
    refine take_in (i := 0) (v := ?v0a) rfl (by kernel_rfl) (by kernel_rfl) (by kernel_rfl) (fun _ _ _ h => h) (by rfl) ?hy0a (by assumption) ?_
    case hy0a => intro WW hSw; (try dsimp only at hSw); go_simp; try with_reducible rfl
    try simp only [Act.put, List.setIfInBounds_toArray, List.set_cons_zero, List.set_cons_succ]
    refine take_in (i := 1) (v := .bool true) rfl (by kernel_rfl) (by kernel_rfl) (by kernel_rfl) (fun _ _ _ h => h) (by rfl) ?hy1a (by assumption) ?_
    case hy1a => intro WW hSw; (try dsimp only at hSw); go_simp; try with_reducible rfl
    try simp only [Act.put, List.setIfInBounds_toArray, List.set_cons_zero, List.set_cons_succ]
    refine take_in (i := 2) (v := .bool true) rfl (by kernel_rfl) (by kernel_rfl) (by kernel_rfl) (fun _ _ _ h => h) (by rfl) ?hy2a (by assumption) ?_
    case hy2a => intro WW hSw; (try dsimp only at hSw); go_simp; try with_reducible rfl
    try simp only [Act.put, List.setIfInBounds_toArray, List.set_cons_zero, List.set_cons_succ]
    refine take_out (i := 3) rfl (by kernel_rfl) (by kernel_rfl) (by kernel_rfl) (fun _ _ _ h => h) (by rfl) (by assumption) ?_
    try simp only [Act.put, List.setIfInBounds_toArray, List.set_cons_zero, List.set_cons_succ]
    refine take_out (i := 4) rfl (by kernel_rfl) (by kernel_rfl) (by kernel_rfl) (fun _ _ _ h => h) (by rfl) (by assumption) ?_
    try simp only [Act.put, List.setIfInBounds_toArray, List.set_cons_zero, List.set_cons_succ]
    refine take_out (i := 5) rfl (by kernel_rfl) (by kernel_rfl) (by kernel_rfl) (fun _ _ _ h => h) (by rfl) (by assumption) ?_
    try simp only [Act.put, List.setIfInBounds_toArray, List.set_cons_zero, List.set_cons_succ]
    refine take_out (i := 6) rfl (by kernel_rfl) (by kernel_rfl) (by kernel_rfl) (fun _ _ _ h => h) (by rfl) (by assumption) ?_
    try simp only [Act.put, List.setIfInBounds_toArray, List.set_cons_zero, List.set_cons_succ]
    refine take_out (i := 7) rfl (by kernel_rfl) (by kernel_rfl) (by kernel_rfl) (fun _ _ _ h => h) (by rfl) (by assumption) ?_
    try simp only [Act.put, List.setIfInBounds_toArray, List.set_cons_zero, List.set_cons_succ]
    refine take_out (i := 8) rfl (by kernel_rfl) (by kernel_rfl) (by kernel_rfl) (fun _ _ _ h => h) (by rfl) (by assumption) ?_
    try simp only [Act.put, List.setIfInBounds_toArray, List.set_cons_zero, List.set_cons_succ]
    refine take_out (i := 9) rfl (by kernel_rfl) (by kernel_rfl) (by kernel_rfl) (fun _ _ _ h => h) (by rfl) (by assumption) ?_
    try simp only [Act.put, List.setIfInBounds_toArray, List.set_cons_zero, List.set_cons_succ]
    refine take_out (i := 10) rfl (by kernel_rfl) (by kernel_rfl) (by kernel_rfl) (fun _ _ _ h => h) (by rfl) (by assumption) ?_
    try simp only [Act.put, List.setIfInBounds_toArray, List.set_cons_zero, List.set_cons_succ]
    refine take_out (i := 11) rfl (by kernel_rfl) (by kernel_rfl) (by kernel_rfl) (fun _ _ _ h => h) (by rfl) (by assumption) ?_
    try simp only [Act.put, List.setIfInBounds_toArray, List.set_cons_zero, List.set_cons_succ]
    refine take_out (i := 12) rfl (by kernel_rfl) (by kernel_rfl) (by kernel_rfl) (fun _ _ _ h => h) (by rfl) (by assumption) ?_
    try simp only [Act.put, List.setIfInBounds_toArray, List.set_cons_zero, List.set_cons_succ]
    refine take_out (i := 13) rfl (by kernel_rfl) (by kernel_rfl) (by kernel_rfl) (fun _ _ _ h => h) (by rfl) (by assumption) ?_
    try simp only [Act.put, List.setIfInBounds_toArray, List.set_cons_zero, List.set_cons_succ]
    refine take_out (i := 14) rfl (by kernel_rfl) (by kernel_rfl) (by kernel_rfl) (fun _ _ _ h => h) (by rfl) (by assumption) ?_
    try simp only [Act.put, List.setIfInBounds_toArray, List.set_cons_zero, List.set_cons_succ]
    refine take_in (i := 15) (v := .bool true) rfl (by kernel_rfl) (by kernel_rfl) (by kernel_rfl) (fun _ _ _ h => h) (by rfl) ?hy15a (by assumption) ?_
    case hy15a => intro WW hSw; (try dsimp only at hSw); go_simp; try with_reducible rfl
    try simp only [Act.put, List.setIfInBounds_toArray, List.set_cons_zero, List.set_cons_succ]
    refine wpAnyH_done (by kernel_rfl) ?_ _
    go_wp2
    go_ret
    have hf := HF.out
    rw [Bool.false_and] at hf
    exact ⟨by rw [HRR.out.2, errV, hf]; rfl, ⟨_, by rw [HRR.out.1, hf]; exact HV2.out.below (by repeat (first | exact Below.refl _ _ | apply below_drew)), .inl rfl⟩, (by repeat (first | exact HBB.out.mono hBs | apply bdrew)), keptBut_below (by repeat (first | exact HBB.out | apply bdrew))⟩
  · skip
    by_cases hk : vk = k
    · have hvk : (vk != k) = false := by simp [hk]
      have HFA : Aside0 ((true && (vk == k || vk == 0)) = true) := ⟨by simp [hk]⟩
      clear hk
      go_upto_region 2 with (fail)
      refine wp_region_held_drew (S := (fun WW => Below W2.heap.size W2 WW)) (by kernel_rfl) ?_ (fun hHeld => ?_)
      · first | exact Below.refl _ _ | exact below_drew (Below.refl _ _)
      refine take_in (i := 0) (v := ?v0b) rfl (by kernel_rfl) (by kernel_rfl) (by kernel_rfl) (fun _ _ _ h => h) (by rfl) ?hy0b (by assumption) ?_
      case hy0b => intro WW hSw; (try dsimp only at hSw); go_simp; try with_reducible rfl
      try simp only [Act.put, List.setIfInBounds_toArray, List.set_cons_zero, List.set_cons_succ]
      refine take_in (i := 1) (v := .bool false) rfl (by kernel_rfl) (by kernel_rfl) (by kernel_rfl) (fun _ _ _ h => h) (by rfl) ?hy1b (by assumption) ?_
      case hy1b => intro WW hSw; (try dsimp only at hSw); go_simp; try with_reducible rfl
      try simp only [Act.put, List.setIfInBounds_toArray, List.set_cons_zero, List.set_cons_succ]
      refine take_in (i := 2) (v := .bool false) rfl (by kernel_rfl) (by kernel_rfl) (by kernel_rfl) (fun _ _ _ h => h) (by rfl) ?hy2b (by assumption) ?_
      case hy2b => intro WW hSw; (try dsimp only at hSw); go_simp; try with_reducible rfl
      try simp only [Act.put, List.setIfInBounds_toArray, List.set_cons_zero, List.set_cons_succ]
      refine take_in (i := 3) (v := ?v3b) rfl (by kernel_rfl) (by kernel_rfl) (by kernel_rfl) (fun _ _ _ h => h) (by rfl) ?hy3b (by assumption) ?_
      case hy3b => intro WW hSw; (try dsimp only at hSw); go_simp; try with_reducible rfl
      try simp only [Act.put, List.setIfInBounds_toArray, List.set_cons_zero, List.set_cons_succ]
      refine take_in (i := 4) (v := .int .i64 vk) rfl (by kernel_rfl) (by kernel_rfl) (by kernel_rfl) (fun _ _ _ h => h) (by rfl) ?hy4b (by assumption) ?_
      case hy4b => intro WW hSw; have h1 := HLX.out WW hSw; have h2 := HLR.out WW hSw; go_simp; try with_reducible rfl
      try simp only [Act.put, List.setIfInBounds_toArray, List.set_cons_zero, List.set_cons_succ]
      refine take_in (i := 5) (v := ?v5b) rfl (by kernel_rfl) (by kernel_rfl) (by kernel_rfl) (fun _ _ _ h => h) (by rfl) ?hy5b (by assumption) ?_
      case hy5b => intro WW hSw; (try dsimp only at hSw); go_simp; try with_reducible rfl
      try simp only [Act.put, List.setIfInBounds_toArray, List.set_cons_zero, List.set_cons_succ]
      refine take_in (i := 6) (v := ?v6b) rfl (by kernel_rfl) (by kernel_rfl) (by kernel_rfl) (fun _ _ _ h => h) (by rfl) ?hy6b (by assumption) ?_
      case hy6b => intro WW hSw; (try dsimp only at hSw); go_simp; try with_reducible rfl
      try simp only [Act.put, List.setIfInBounds_toArray, List.set_cons_zero, List.set_cons_succ]
      refine take_in (i := 7) (v := ?v7b) rfl (by kernel_rfl) (by kernel_rfl) (by kernel_rfl) (fun _ _ _ h => h) (by rfl) ?hy7b (by assumption) ?_
      case hy7b => intro WW hSw; (try dsimp only at hSw); go_simp; try with_reducible rfl
      try simp only [Act.put, List.setIfInBounds_toArray, List.set_cons_zero, List.set_cons_succ]
      refine take_in (i := 8) (v := .int .i64 k) rfl (by kernel_rfl) (by kernel_rfl) (by kernel_rfl) (fun _ _ _ h => h) (by rfl) ?hy8b (by assumption) ?_
      case hy8b => intro WW hSw; have h1 := HLX.out WW hSw; have h2 := HLR.out WW hSw; go_simp; try with_reducible rfl
      try simp only [Act.put, List.setIfInBounds_toArray, List.set_cons_zero, List.set_cons_succ]
      refine take_in (i := 9) (v := .bool false) rfl (by kernel_rfl) (by kernel_rfl) (by kernel_rfl) (fun _ _ _ h => h) (by rfl) ?hy9b (by assumption) ?_
      case hy9b => intro WW hSw; have hh := hvk; go_simp; try with_reducible rfl
      try simp only [Act.put, List.setIfInBounds_toArray, List.set_cons_zero, List.set_cons_succ]
      refine take_in (i := 10) (v := .bool false) rfl (by kernel_rfl) (by kernel_rfl) (by kernel_rfl) (fun _ _ _ h => h) (by rfl) ?hy10b (by assumption) ?_
      case hy10b => intro WW hSw; (try dsimp only at hSw); go_simp; try with_reducible rfl
      try simp only [Act.put, List.setIfInBounds_toArray, List.set_cons_zero, List.set_cons_succ]
      refine take_out (i := 11) rfl (by kernel_rfl) (by kernel_rfl) (by kernel_rfl) (fun _ _ _ h => h) (by rfl) (by assumption) ?_
      try simp only [Act.put, List.setIfInBounds_toArray, List.set_cons_zero, List.set_cons_succ]
      refine take_out (i := 12) rfl (by kernel_rfl) (by kernel_rfl) (by kernel_rfl) (fun _ _ _ h => h) (by rfl) (by assumption) ?_
      try simp only [Act.put, List.setIfInBounds_toArray, List.set_cons_zero, List.set_cons_succ]
      refine take_out (i := 13) rfl (by kernel_rfl) (by kernel_rfl) (by kernel_rfl) (fun _ _ _ h => h) (by rfl) (by assumption) ?_
      try simp only [Act.put, List.setIfInBounds_toArray, List.set_cons_zero, List.set_cons_succ]
      refine take_in (i := 14) (v := .bool false) rfl (by kernel_rfl) (by kernel_rfl) (by kernel_rfl) (fun _ _ _ h => h) (by rfl) ?hy14b (by assumption) ?_
      case hy14b => intro WW hSw; (try dsimp only at hSw); go_simp; try with_reducible rfl
      try simp only [Act.put, List.setIfInBounds_toArray, List.set_cons_zero, List.set_cons_succ]
      refine take_in (i := 15) (v := .bool false) rfl (by kernel_rfl) (by kernel_rfl) (by kernel_rfl) (fun _ _ _ h => h) (by rfl) ?hy15b (by assumption) ?_
      case hy15b => intro WW hSw; (try dsimp only at hSw); go_simp; try with_reducible rfl
      try simp only [Act.put, List.setIfInBounds_toArray, List.set_cons_zero, List.set_cons_succ]
      refine wpAnyH_done (by kernel_rfl) ?_ _
      obtain ⟨FO, hFO⟩ : ∃ FO : Nat → Prop, FO = fun j => Value.ownBlock (.slice A5 us.length c5) = some j ∨ j = rb := ⟨_, rfl⟩
      have HFO := Aside0.mk hFO
      have hB2 : B ≤ W2.heap.size := HV2.out.size
      have HKX : Aside0 (∀ WW, KeptBut FO W2 WW → ∀ j, WW.cell? ⟨bx, j, none⟩ = (#[.int .i64 vk, .bool vb, .int .i64 vn, .string vss, .slice vA vp.length vc] : Array Value)[j]?) := ⟨fun WW h => (HX2.out.at_ (h.block _ HX2.out.lt (fun e => by
        rw [hFO] at e
        rcases e with e | e
        · have h1 := HBX.out; have h3 := HXN.out bx e; omega
        · exact HNE.out e))).cells⟩
      clear hFO
      go_upto_region 4 with (fail)
      refine wp_region_held_drew (S := (fun WW => KeptBut FO W2 WW)) (by kernel_rfl) ?_ (fun hHeld => ?_)
      · (repeat (first | exact HK10 | exact HK5 | exact KeptBut.refl _ _ | apply keptBut_drew | apply kb_alloc))
      refine take_in (i := 0) (v := ?v0c) rfl (by kernel_rfl) (by kernel_rfl) (by kernel_rfl) (fun _ _ _ h => h) (by rfl) ?hy0c (by assumption) ?_
      case hy0c => intro WW hSw; (try dsimp only at hSw); go_simp; try with_reducible rfl
      try simp only [Act.put, List.setIfInBounds_toArray, List.set_cons_zero, List.set_cons_succ]
      refine take_in (i := 1) (v := ?v1c) rfl (by kernel_rfl) (by kernel_rfl) (by kernel_rfl) (fun _ _ _ h => h) (by rfl) ?hy1c (by assumption) ?_
      case hy1c => intro WW hSw; (try dsimp only at hSw); go_simp; try with_reducible rfl
      try simp only [Act.put, List.setIfInBounds_toArray, List.set_cons_zero, List.set_cons_succ]
      refine take_in (i := 2) (v := ?v2c) rfl (by kernel_rfl) (by kernel_rfl) (by kernel_rfl) (fun _ _ _ h => h) (by rfl) ?hy2c (by assumption) ?_
      case hy2c => intro WW hSw; (try dsimp only at hSw); go_simp; try with_reducible rfl
      try simp only [Act.put, List.setIfInBounds_toArray, List.set_cons_zero, List.set_cons_succ]
      refine take_in (i := 3) (v := ?v3c) rfl (by kernel_rfl) (by kernel_rfl) (by kernel_rfl) (fun _ _ _ h => h) (by rfl) ?hy3c (by assumption) ?_
      case hy3c => intro WW hSw; (try dsimp only at hSw); go_simp; try with_reducible rfl
      try simp only [Act.put, List.setIfInBounds_toArray, List.set_cons_zero, List.set_cons_succ]
      refine take_in (i := 5) (v := .agg #[.int .i64 vk, .bool vb, .int .i64 vn, .string vss, .slice vA vp.length vc]) rfl (by kernel_rfl) (by kernel_rfl) (by kernel_rfl) (fun _ _ _ h => h) (by rfl) ?hy5c (by assumption) ?_
      case hy5c => intro WW hSw; have h1 := HKX.out WW hSw; go_simp; try with_reducible rfl
      try simp only [Act.put, List.setIfInBounds_toArray, List.set_cons_zero, List.set_cons_succ]
      refine two_step (i := 4) (j := 6) (by kernel_rfl) rfl rfl (fun K hK => ?_) (fun K hK => ?_)
      · skip
        have hc4 := HV2.out.box.cells
        have hf4 := HV2.out.box.free
        have hc5 := rbox_more HV2.out.box
        go_simp
        clear hc4 hf4 hc5
        refine hK.out _ _ ?_ (fun hHeld => ?_)
        · (repeat (first | exact HK10 | exact HK5 | exact KeptBut.refl _ _ | apply keptBut_drew | apply kb_alloc))
        clear hK K
        try simp only [Act.put, List.setIfInBounds_toArray, List.set_cons_zero, List.set_cons_succ]
        refine one_step (i := 6) (by kernel_rfl) rfl (fun K hK => ?_)
        go_simp
        refine hK.out _ _ ?_ (fun hHeld => ?_)
        · (repeat (first | exact HK10 | exact HK5 | exact KeptBut.refl _ _ | apply keptBut_drew | apply kb_alloc))
        clear hK K
        try simp only [Act.put, List.setIfInBounds_toArray, List.set_cons_zero, List.set_cons_succ]
        refine one_step (i := 7) (by kernel_rfl) rfl (fun K hK => ?_)
        refine of_if (by rfl) ?_
        refine append_valsG (.tmp 28) (.tmp 30) rfl B (.slice A5 us.length c5) us rfl ?hown ?hbb (some ⟨W2.heap.size, 0, none⟩) [⟨vk, vn, vb, vss, vA, vp, vc⟩] 1 rfl ?hrd ?hap (by simp; omega) ?_
        case hown => exact HV2.out.own.below (by repeat (first | exact Below.refl _ _ | apply below_drew | apply below_more))
        case hbb => have := HV2.out.size; simp; omega
        case hrd =>
          have h := readsV_new W2 ⟨vk, vn, vb, vss, vA, vp, vc⟩ (HP.out.1.below HBB.out) HP.out.2.2
          dsimp only at h
          exact h.below (by repeat (first | exact Below.refl _ _ | apply bdrew))
        case hap => intro u hu a e hp e2; simp at hu; subst hu; have h1 := HP.out.2.1 a e hp; have h2 := (HV2.out.own.row.lt a.block e2).1; omega
        intro v5 W5 hO5 hb5 hg5 hat5
        have HK5 : KeptBut FO W2 W5 := (show KeptBut FO W2 _ from by (repeat (first | exact KeptBut.refl _ _ | apply keptBut_drew | apply kb_alloc))).trans (keptBut_grown (F := FO) hg5 (fun k e => by rw [HFO.out]; exact .inl e)) (fun _ _ h => h)
        have HAT : Aside0 (∀ j, v5.ownBlock = some j → j ≠ rb) := ⟨fun j e e2 => by
          subst e2
          rcases hat5 with h | h
          · rw [h] at e; exact HV2.out.ne e
          · rw [h] at e; have := HV2.out.box.lt; simp at e; omega⟩
        have HBX5 : Aside0 (RBox W5 rb #[.int .i64 k, .slice A5 us.length c5]) := ⟨HV2.out.box.at_ ((hg5.block rb (by have := HV2.out.box.lt; simp; omega) (fun e => HV2.out.ne e.symm)).trans (by first | exact heap_alloc_old W2 _ HV2.out.box.lt | rfl))⟩
        obtain ⟨A6, c6, rfl, hrd6⟩ := hO5.reads
        have HAT : Aside0 (∀ j, (Value.slice A6 (us.length + 1) c6).ownBlock = some j → j ≠ rb) := ⟨by have h := HAT.out; rw [List.length_append, List.length_cons, List.length_nil] at h; exact h⟩
        have HO5 := Aside0.mk (And.intro hO5 (HBB.out.mono hBs |>.trans ((show Below B W2 _ from by repeat (first | exact Below.refl _ _ | exact balloc (Below.refl _ _) hB2 _ | apply bdrew)).trans hb5)))
        have HAT6 : Aside0 ((Value.slice A6 (us.length + 1) c6).ownBlock = (Value.slice A5 us.length c5).ownBlock ∨ ∀ j, (Value.slice A6 (us.length + 1) c6).ownBlock = some j → w.heap.size ≤ j) := ⟨by
          rw [List.length_append, List.length_cons, List.length_nil] at hat5
          rcases hat5 with h | h
          · exact .inl h
          · refine .inr (fun j e => ?_)
            have e2 : some j = some _ := e.symm.trans h
            have h9 := Option.some.inj e2
            have h8 := HBB.out.size
            rw [h9]
            refine Nat.le_trans h8 ?_
            first | exact Nat.le_refl _ | exact (show W2.heap.size ≤ (W2.alloc _).heap.size by simp)⟩
        rw [List.length_append, List.length_cons, List.length_nil]
        clear hO5 hb5 hg5 hat5 hrd6
        refine hK.out _ _ ?_ (fun hHeld => ?_)
        · (repeat (first | exact HK10 | exact HK5 | exact KeptBut.refl _ _ | apply keptBut_drew | apply kb_alloc))
        clear hK K
        try simp only [Act.put, List.setIfInBounds_toArray, List.set_cons_zero, List.set_cons_succ]
        refine take_in (i := 8) (v := ?v8cp) rfl (by kernel_rfl) (by kernel_rfl) (by kernel_rfl) (fun _ _ _ h => h) (by rfl) ?hy8cp (by assumption) ?_
        case hy8cp => intro WW hSw; (try dsimp only at hSw); go_simp; try with_reducible rfl
        try simp only [Act.put, List.setIfInBounds_toArray, List.set_cons_zero, List.set_cons_succ]
        refine take_in (i := 9) (v := ?v9cp) rfl (by kernel_rfl) (by kernel_rfl) (by kernel_rfl) (fun _ _ _ h => h) (by rfl) ?hy9cp (by assumption) ?_
        case hy9cp => intro WW hSw; (try dsimp only at hSw); go_simp; try with_reducible rfl
        try simp only [Act.put, List.setIfInBounds_toArray, List.set_cons_zero, List.set_cons_succ]
        refine one_step (i := 10) (by kernel_rfl) rfl (fun K hK => ?_)
        have hc10 := HBX5.out.cells
        have hf10 := HBX5.out.free
        go_simp
        clear hc10 hf10
        obtain ⟨W10, hW10⟩ : ∃ W10, W10 = W5.setCell ⟨rb, 1, none⟩ (.slice A6 (us.length + 1) c6) := ⟨_, rfl⟩
        rw [← hW10]
        have HK10 : KeptBut FO W2 W10 := by rw [hW10]; exact HK5.trans (keptBut_set W5 ⟨rb, 1, none⟩ _ (by rw [HFO.out]; exact .inr rfl)) (fun _ _ h => h)
        have HW10 := Aside0.mk hW10
        clear hW10
        refine hK.out _ _ ?_ (fun hHeld => ?_)
        · (repeat (first | exact HK10 | exact HK5 | exact KeptBut.refl _ _ | apply keptBut_drew | apply kb_alloc))
        clear hK K
        try simp only [Act.put, List.setIfInBounds_toArray, List.set_cons_zero, List.set_cons_succ]
        refine wpAnyH_done (by kernel_rfl) ?_ _
        go_wp2
        go_ret
        have hf := HF.out
        have hW10 := HW10.out
        rw [HFA.out] at hf
        have hsz : W10.heap.size = W5.heap.size := by rw [hW10]; simp
        have hoth : ∀ j, j ≠ rb → W10.heap[j]? = W5.heap[j]? := fun j hj => by rw [hW10]; exact heap_setCell_other _ _ _ _ hj
        refine ⟨by rw [HRR.out.2, errV, hf]; rfl, ⟨.slice A6 (us.length + 1) c6, ?_, HAT6.out⟩, ?_, (keptBut_below HBB.out).trans (HK10.mono (fun j _ h => by rw [HFO.out] at h; exact h)) (fun j _ h => h)⟩
        · rw [HRR.out.1, hf, if_pos rfl]
          have hO := HO5.out.1
          rw [List.length_append, List.length_cons, List.length_nil] at hO
          have hoW : OwnV W10 B (.slice A6 (us.length + 1) c6) (us ++ [⟨vk, vn, vb, vss, vA, vp, vc⟩]) := ownV_at hO (fun j hj e => hoth j (by
            rcases e with e | e
            · exact HAT.out j e
            · have := HV2.out.at_; omega)) (fun u hu a e hp => by
              rcases List.mem_append.1 hu with hu | hu
              · exact HV2.out.old u hu a e hp
              · simp at hu; subst hu; exact HP.out.2.1 a e hp) (by have := HBX5.out.lt; have := HV2.out.at_; omega)
          exact ⟨by rw [hW10]; exact HBX5.out.put 1 _, hoW, HV2.out.at_, (fun e => HAT.out rb e rfl), (fun u hu a e hp => by
              rcases List.mem_append.1 hu with hu | hu
              · exact HV2.out.old u hu a e hp
              · simp at hu; subst hu; exact HP.out.2.1 a e hp)⟩
        · rw [hW10]
          exact Below.setCell HO5.out.2 (p := ⟨rb, 1, none⟩) HV2.out.at_ _
      · skip
        go_simp
        refine hK.out _ _ ?_ (fun hHeld => ?_)
        · (repeat (first | exact HK10 | exact HK5 | exact KeptBut.refl _ _ | apply keptBut_drew | apply kb_alloc))
        clear hK K
        try simp only [Act.put, List.setIfInBounds_toArray, List.set_cons_zero, List.set_cons_succ]
        refine one_step (i := 4) (by kernel_rfl) rfl (fun K hK => ?_)
        have hc4 := HV2.out.box.cells
        have hf4 := HV2.out.box.free
        have hc5 := rbox_more HV2.out.box
        go_simp
        clear hc4 hf4 hc5
        refine hK.out _ _ ?_ (fun hHeld => ?_)
        · (repeat (first | exact HK10 | exact HK5 | exact KeptBut.refl _ _ | apply keptBut_drew | apply kb_alloc))
        clear hK K
        try simp only [Act.put, List.setIfInBounds_toArray, List.set_cons_zero, List.set_cons_succ]
        refine one_step (i := 7) (by kernel_rfl) rfl (fun K hK => ?_)
        refine of_if (by rfl) ?_
        refine append_valsG (.tmp 28) (.tmp 30) rfl B (.slice A5 us.length c5) us rfl ?hown ?hbb (some ⟨W2.heap.size, 0, none⟩) [⟨vk, vn, vb, vss, vA, vp, vc⟩] 1 rfl ?hrd ?hap (by simp; omega) ?_
        case hown => exact HV2.out.own.below (by repeat (first | exact Below.refl _ _ | apply below_drew | apply below_more))
        case hbb => have := HV2.out.size; simp; omega
        case hrd =>
          have h := readsV_new W2 ⟨vk, vn, vb, vss, vA, vp, vc⟩ (HP.out.1.below HBB.out) HP.out.2.2
          dsimp only at h
          exact h.below (by repeat (first | exact Below.refl _ _ | apply bdrew))
        case hap => intro u hu a e hp e2; simp at hu; subst hu; have h1 := HP.out.2.1 a e hp; have h2 := (HV2.out.own.row.lt a.block e2).1; omega
        intro v5 W5 hO5 hb5 hg5 hat5
        have HK5 : KeptBut FO W2 W5 := (show KeptBut FO W2 _ from by (repeat (first | exact KeptBut.refl _ _ | apply keptBut_drew | apply kb_alloc))).trans (keptBut_grown (F := FO) hg5 (fun k e => by rw [HFO.out]; exact .inl e)) (fun _ _ h => h)
        have HAT : Aside0 (∀ j, v5.ownBlock = some j → j ≠ rb) := ⟨fun j e e2 => by
          subst e2
          rcases hat5 with h | h
          · rw [h] at e; exact HV2.out.ne e
          · rw [h] at e; have := HV2.out.box.lt; simp at e; omega⟩
        have HBX5 : Aside0 (RBox W5 rb #[.int .i64 k, .slice A5 us.length c5]) := ⟨HV2.out.box.at_ ((hg5.block rb (by have := HV2.out.box.lt; simp; omega) (fun e => HV2.out.ne e.symm)).trans (by first | exact heap_alloc_old W2 _ HV2.out.box.lt | rfl))⟩
        obtain ⟨A6, c6, rfl, hrd6⟩ := hO5.reads
        have HAT : Aside0 (∀ j, (Value.slice A6 (us.length + 1) c6).ownBlock = some j → j ≠ rb) := ⟨by have h := HAT.out; rw [List.length_append, List.length_cons, List.length_nil] at h; exact h⟩
        have HO5 := Aside0.mk (And.intro hO5 (HBB.out.mono hBs |>.trans ((show Below B W2 _ from by repeat (first | exact Below.refl _ _ | exact balloc (Below.refl _ _) hB2 _ | apply bdrew)).trans hb5)))
        have HAT6 : Aside0 ((Value.slice A6 (us.length + 1) c6).ownBlock = (Value.slice A5 us.length c5).ownBlock ∨ ∀ j, (Value.slice A6 (us.length + 1) c6).ownBlock = some j → w.heap.size ≤ j) := ⟨by
          rw [List.length_append, List.length_cons, List.length_nil] at hat5
          rcases hat5 with h | h
          · exact .inl h
          · refine .inr (fun j e => ?_)
            have e2 : some j = some _ := e.symm.trans h
            have h9 := Option.some.inj e2
            have h8 := HBB.out.size
            rw [h9]
            refine Nat.le_trans h8 ?_
            first | exact Nat.le_refl _ | exact (show W2.heap.size ≤ (W2.alloc _).heap.size by simp)⟩
        rw [List.length_append, List.length_cons, List.length_nil]
        clear hO5 hb5 hg5 hat5 hrd6
        refine hK.out _ _ ?_ (fun hHeld => ?_)
        · (repeat (first | exact HK10 | exact HK5 | exact KeptBut.refl _ _ | apply keptBut_drew | apply kb_alloc))
        clear hK K
        try simp only [Act.put, List.setIfInBounds_toArray, List.set_cons_zero, List.set_cons_succ]
        refine take_in (i := 8) (v := ?v8cq) rfl (by kernel_rfl) (by kernel_rfl) (by kernel_rfl) (fun _ _ _ h => h) (by rfl) ?hy8cq (by assumption) ?_
        case hy8cq => intro WW hSw; (try dsimp only at hSw); go_simp; try with_reducible rfl
        try simp only [Act.put, List.setIfInBounds_toArray, List.set_cons_zero, List.set_cons_succ]
        refine take_in (i := 9) (v := ?v9cq) rfl (by kernel_rfl) (by kernel_rfl) (by kernel_rfl) (fun _ _ _ h => h) (by rfl) ?hy9cq (by assumption) ?_
        case hy9cq => intro WW hSw; (try dsimp only at hSw); go_simp; try with_reducible rfl
        try simp only [Act.put, List.setIfInBounds_toArray, List.set_cons_zero, List.set_cons_succ]
        refine one_step (i := 10) (by kernel_rfl) rfl (fun K hK => ?_)
        have hc10 := HBX5.out.cells
        have hf10 := HBX5.out.free
        go_simp
        clear hc10 hf10
        obtain ⟨W10, hW10⟩ : ∃ W10, W10 = W5.setCell ⟨rb, 1, none⟩ (.slice A6 (us.length + 1) c6) := ⟨_, rfl⟩
        rw [← hW10]
        have HK10 : KeptBut FO W2 W10 := by rw [hW10]; exact HK5.trans (keptBut_set W5 ⟨rb, 1, none⟩ _ (by rw [HFO.out]; exact .inr rfl)) (fun _ _ h => h)
        have HW10 := Aside0.mk hW10
        clear hW10
        refine hK.out _ _ ?_ (fun hHeld => ?_)
        · (repeat (first | exact HK10 | exact HK5 | exact KeptBut.refl _ _ | apply keptBut_drew | apply kb_alloc))
        clear hK K
        try simp only [Act.put, List.setIfInBounds_toArray, List.set_cons_zero, List.set_cons_succ]
        refine wpAnyH_done (by kernel_rfl) ?_ _
        go_wp2
        go_ret
        have hf := HF.out
        have hW10 := HW10.out
        rw [HFA.out] at hf
        have hsz : W10.heap.size = W5.heap.size := by rw [hW10]; simp
        have hoth : ∀ j, j ≠ rb → W10.heap[j]? = W5.heap[j]? := fun j hj => by rw [hW10]; exact heap_setCell_other _ _ _ _ hj
        refine ⟨by rw [HRR.out.2, errV, hf]; rfl, ⟨.slice A6 (us.length + 1) c6, ?_, HAT6.out⟩, ?_, (keptBut_below HBB.out).trans (HK10.mono (fun j _ h => by rw [HFO.out] at h; exact h)) (fun j _ h => h)⟩
        · rw [HRR.out.1, hf, if_pos rfl]
          have hO := HO5.out.1
          rw [List.length_append, List.length_cons, List.length_nil] at hO
          have hoW : OwnV W10 B (.slice A6 (us.length + 1) c6) (us ++ [⟨vk, vn, vb, vss, vA, vp, vc⟩]) := ownV_at hO (fun j hj e => hoth j (by
            rcases e with e | e
            · exact HAT.out j e
            · have := HV2.out.at_; omega)) (fun u hu a e hp => by
              rcases List.mem_append.1 hu with hu | hu
              · exact HV2.out.old u hu a e hp
              · simp at hu; subst hu; exact HP.out.2.1 a e hp) (by have := HBX5.out.lt; have := HV2.out.at_; omega)
          exact ⟨by rw [hW10]; exact HBX5.out.put 1 _, hoW, HV2.out.at_, (fun e => HAT.out rb e rfl), (fun u hu a e hp => by
              rcases List.mem_append.1 hu with hu | hu
              · exact HV2.out.old u hu a e hp
              · simp at hu; subst hu; exact HP.out.2.1 a e hp)⟩
        · rw [hW10]
          exact Below.setCell HO5.out.2 (p := ⟨rb, 1, none⟩) HV2.out.at_ _
    · have hvk : (vk != k) = true := by simp [hk]
      by_cases h0 : vk = 0
      · have hv0 : (vk != 0) = false := by simp [h0]
        have HFA : Aside0 ((true && (vk == k || vk == 0)) = true) := ⟨by simp [h0]⟩
        clear hk h0
        go_upto_region 2 with (fail)
        refine wp_region_held_drew (S := (fun WW => Below W2.heap.size W2 WW)) (by kernel_rfl) ?_ (fun hHeld => ?_)
        · first | exact Below.refl _ _ | exact below_drew (Below.refl _ _)
        refine take_in (i := 0) (v := ?v0d) rfl (by kernel_rfl) (by kernel_rfl) (by kernel_rfl) (fun _ _ _ h => h) (by rfl) ?hy0d (by assumption) ?_
        case hy0d => intro WW hSw; (try dsimp only at hSw); go_simp; try with_reducible rfl
        try simp only [Act.put, List.setIfInBounds_toArray, List.set_cons_zero, List.set_cons_succ]
        refine take_in (i := 1) (v := .bool false) rfl (by kernel_rfl) (by kernel_rfl) (by kernel_rfl) (fun _ _ _ h => h) (by rfl) ?hy1d (by assumption) ?_
        case hy1d => intro WW hSw; (try dsimp only at hSw); go_simp; try with_reducible rfl
        try simp only [Act.put, List.setIfInBounds_toArray, List.set_cons_zero, List.set_cons_succ]
        refine take_in (i := 2) (v := .bool false) rfl (by kernel_rfl) (by kernel_rfl) (by kernel_rfl) (fun _ _ _ h => h) (by rfl) ?hy2d (by assumption) ?_
        case hy2d => intro WW hSw; (try dsimp only at hSw); go_simp; try with_reducible rfl
        try simp only [Act.put, List.setIfInBounds_toArray, List.set_cons_zero, List.set_cons_succ]
        refine take_in (i := 3) (v := ?v3d) rfl (by kernel_rfl) (by kernel_rfl) (by kernel_rfl) (fun _ _ _ h => h) (by rfl) ?hy3d (by assumption) ?_
        case hy3d => intro WW hSw; (try dsimp only at hSw); go_simp; try with_reducible rfl
        try simp only [Act.put, List.setIfInBounds_toArray, List.set_cons_zero, List.set_cons_succ]
        refine take_in (i := 4) (v := .int .i64 vk) rfl (by kernel_rfl) (by kernel_rfl) (by kernel_rfl) (fun _ _ _ h => h) (by rfl) ?hy4d (by assumption) ?_
        case hy4d => intro WW hSw; have h1 := HLX.out WW hSw; have h2 := HLR.out WW hSw; go_simp; try with_reducible rfl
        try simp only [Act.put, List.setIfInBounds_toArray, List.set_cons_zero, List.set_cons_succ]
        refine take_in (i := 5) (v := ?v5d) rfl (by kernel_rfl) (by kernel_rfl) (by kernel_rfl) (fun _ _ _ h => h) (by rfl) ?hy5d (by assumption) ?_
        case hy5d => intro WW hSw; (try dsimp only at hSw); go_simp; try with_reducible rfl
        try simp only [Act.put, List.setIfInBounds_toArray, List.set_cons_zero, List.set_cons_succ]
        refine take_in (i := 6) (v := ?v6d) rfl (by kernel_rfl) (by kernel_rfl) (by kernel_rfl) (fun _ _ _ h => h) (by rfl) ?hy6d (by assumption) ?_
        case hy6d => intro WW hSw; (try dsimp only at hSw); go_simp; try with_reducible rfl
        try simp only [Act.put, List.setIfInBounds_toArray, List.set_cons_zero, List.set_cons_succ]
        refine take_in (i := 7) (v := ?v7d) rfl (by kernel_rfl) (by kernel_rfl) (by kernel_rfl) (fun _ _ _ h => h) (by rfl) ?hy7d (by assumption) ?_
        case hy7d => intro WW hSw; (try dsimp only at hSw); go_simp; try with_reducible rfl
        try simp only [Act.put, List.setIfInBounds_toArray, List.set_cons_zero, List.set_cons_succ]
        refine take_in (i := 8) (v := .int .i64 k) rfl (by kernel_rfl) (by kernel_rfl) (by kernel_rfl) (fun _ _ _ h => h) (by rfl) ?hy8d (by assumption) ?_
        case hy8d => intro WW hSw; have h1 := HLX.out WW hSw; have h2 := HLR.out WW hSw; go_simp; try with_reducible rfl
        try simp only [Act.put, List.setIfInBounds_toArray, List.set_cons_zero, List.set_cons_succ]
        refine take_in (i := 9) (v := .bool true) rfl (by kernel_rfl) (by kernel_rfl) (by kernel_rfl) (fun _ _ _ h => h) (by rfl) ?hy9d (by assumption) ?_
        case hy9d => intro WW hSw; have hh := hvk; go_simp; try with_reducible rfl
        try simp only [Act.put, List.setIfInBounds_toArray, List.set_cons_zero, List.set_cons_succ]
        refine take_in (i := 10) (v := .bool true) rfl (by kernel_rfl) (by kernel_rfl) (by kernel_rfl) (fun _ _ _ h => h) (by rfl) ?hy10d (by assumption) ?_
        case hy10d => intro WW hSw; (try dsimp only at hSw); go_simp; try with_reducible rfl
        try simp only [Act.put, List.setIfInBounds_toArray, List.set_cons_zero, List.set_cons_succ]
        refine take_in (i := 11) (v := ?v11d) rfl (by kernel_rfl) (by kernel_rfl) (by kernel_rfl) (fun _ _ _ h => h) (by rfl) ?hy11d (by assumption) ?_
        case hy11d => intro WW hSw; (try dsimp only at hSw); go_simp; try with_reducible rfl
        try simp only [Act.put, List.setIfInBounds_toArray, List.set_cons_zero, List.set_cons_succ]
        refine take_in (i := 12) (v := .int .i64 vk) rfl (by kernel_rfl) (by kernel_rfl) (by kernel_rfl) (fun _ _ _ h => h) (by rfl) ?hy12d (by assumption) ?_
        case hy12d => intro WW hSw; have h1 := HLX.out WW hSw; have h2 := HLR.out WW hSw; go_simp; try with_reducible rfl
        try simp only [Act.put, List.setIfInBounds_toArray, List.set_cons_zero, List.set_cons_succ]
        refine take_in (i := 13) (v := .bool false) rfl (by kernel_rfl) (by kernel_rfl) (by kernel_rfl) (fun _ _ _ h => h) (by rfl) ?hy13d (by assumption) ?_
        case hy13d => intro WW hSw; have hh := hv0; go_simp; try with_reducible rfl
        try simp only [Act.put, List.setIfInBounds_toArray, List.set_cons_zero, List.set_cons_succ]
        refine take_in (i := 14) (v := .bool false) rfl (by kernel_rfl) (by kernel_rfl) (by kernel_rfl) (fun _ _ _ h => h) (by rfl) ?hy14d (by assumption) ?_
        case hy14d => intro WW hSw; (try dsimp only at hSw); go_simp; try with_reducible rfl
        try simp only [Act.put, List.setIfInBounds_toArray, List.set_cons_zero, List.set_cons_succ]
        refine take_in (i := 15) (v := .bool false) rfl (by kernel_rfl) (by kernel_rfl) (by kernel_rfl) (fun _ _ _ h => h) (by rfl) ?hy15d (by assumption) ?_
        case hy15d => intro WW hSw; (try dsimp only at hSw); go_simp; try with_reducible rfl
        try simp only [Act.put, List.setIfInBounds_toArray, List.set_cons_zero, List.set_cons_succ]
        refine wpAnyH_done (by kernel_rfl) ?_ _
        obtain ⟨FO, hFO⟩ : ∃ FO : Nat → Prop, FO = fun j => Value.ownBlock (.slice A5 us.length c5) = some j ∨ j = rb := ⟨_, rfl⟩
        have HFO := Aside0.mk hFO
        have hB2 : B ≤ W2.heap.size := HV2.out.size
        have HKX : Aside0 (∀ WW, KeptBut FO W2 WW → ∀ j, WW.cell? ⟨bx, j, none⟩ = (#[.int .i64 vk, .bool vb, .int .i64 vn, .string vss, .slice vA vp.length vc] : Array Value)[j]?) := ⟨fun WW h => (HX2.out.at_ (h.block _ HX2.out.lt (fun e => by
          rw [hFO] at e
          rcases e with e | e
          · have h1 := HBX.out; have h3 := HXN.out bx e; omega
          · exact HNE.out e))).cells⟩
        clear hFO
        go_upto_region 4 with (fail)
        refine wp_region_held_drew (S := (fun WW => KeptBut FO W2 WW)) (by kernel_rfl) ?_ (fun hHeld => ?_)
        · (repeat (first | exact HK10 | exact HK5 | exact KeptBut.refl _ _ | apply keptBut_drew | apply kb_alloc))
        refine take_in (i := 0) (v := ?v0e) rfl (by kernel_rfl) (by kernel_rfl) (by kernel_rfl) (fun _ _ _ h => h) (by rfl) ?hy0e (by assumption) ?_
        case hy0e => intro WW hSw; (try dsimp only at hSw); go_simp; try with_reducible rfl
        try simp only [Act.put, List.setIfInBounds_toArray, List.set_cons_zero, List.set_cons_succ]
        refine take_in (i := 1) (v := ?v1e) rfl (by kernel_rfl) (by kernel_rfl) (by kernel_rfl) (fun _ _ _ h => h) (by rfl) ?hy1e (by assumption) ?_
        case hy1e => intro WW hSw; (try dsimp only at hSw); go_simp; try with_reducible rfl
        try simp only [Act.put, List.setIfInBounds_toArray, List.set_cons_zero, List.set_cons_succ]
        refine take_in (i := 2) (v := ?v2e) rfl (by kernel_rfl) (by kernel_rfl) (by kernel_rfl) (fun _ _ _ h => h) (by rfl) ?hy2e (by assumption) ?_
        case hy2e => intro WW hSw; (try dsimp only at hSw); go_simp; try with_reducible rfl
        try simp only [Act.put, List.setIfInBounds_toArray, List.set_cons_zero, List.set_cons_succ]
        refine take_in (i := 3) (v := ?v3e) rfl (by kernel_rfl) (by kernel_rfl) (by kernel_rfl) (fun _ _ _ h => h) (by rfl) ?hy3e (by assumption) ?_
        case hy3e => intro WW hSw; (try dsimp only at hSw); go_simp; try with_reducible rfl
        try simp only [Act.put, List.setIfInBounds_toArray, List.set_cons_zero, List.set_cons_succ]
        refine take_in (i := 5) (v := .agg #[.int .i64 vk, .bool vb, .int .i64 vn, .string vss, .slice vA vp.length vc]) rfl (by kernel_rfl) (by kernel_rfl) (by kernel_rfl) (fun _ _ _ h => h) (by rfl) ?hy5e (by assumption) ?_
        case hy5e => intro WW hSw; have h1 := HKX.out WW hSw; go_simp; try with_reducible rfl
        try simp only [Act.put, List.setIfInBounds_toArray, List.set_cons_zero, List.set_cons_succ]
        refine two_step (i := 4) (j := 6) (by kernel_rfl) rfl rfl (fun K hK => ?_) (fun K hK => ?_)
        · skip
          have hc4 := HV2.out.box.cells
          have hf4 := HV2.out.box.free
          have hc5 := rbox_more HV2.out.box
          go_simp
          clear hc4 hf4 hc5
          refine hK.out _ _ ?_ (fun hHeld => ?_)
          · (repeat (first | exact HK10 | exact HK5 | exact KeptBut.refl _ _ | apply keptBut_drew | apply kb_alloc))
          clear hK K
          try simp only [Act.put, List.setIfInBounds_toArray, List.set_cons_zero, List.set_cons_succ]
          refine one_step (i := 6) (by kernel_rfl) rfl (fun K hK => ?_)
          go_simp
          refine hK.out _ _ ?_ (fun hHeld => ?_)
          · (repeat (first | exact HK10 | exact HK5 | exact KeptBut.refl _ _ | apply keptBut_drew | apply kb_alloc))
          clear hK K
          try simp only [Act.put, List.setIfInBounds_toArray, List.set_cons_zero, List.set_cons_succ]
          refine one_step (i := 7) (by kernel_rfl) rfl (fun K hK => ?_)
          refine of_if (by rfl) ?_
          refine append_valsG (.tmp 28) (.tmp 30) rfl B (.slice A5 us.length c5) us rfl ?hown ?hbb (some ⟨W2.heap.size, 0, none⟩) [⟨vk, vn, vb, vss, vA, vp, vc⟩] 1 rfl ?hrd ?hap (by simp; omega) ?_
          case hown => exact HV2.out.own.below (by repeat (first | exact Below.refl _ _ | apply below_drew | apply below_more))
          case hbb => have := HV2.out.size; simp; omega
          case hrd =>
            have h := readsV_new W2 ⟨vk, vn, vb, vss, vA, vp, vc⟩ (HP.out.1.below HBB.out) HP.out.2.2
            dsimp only at h
            exact h.below (by repeat (first | exact Below.refl _ _ | apply bdrew))
          case hap => intro u hu a e hp e2; simp at hu; subst hu; have h1 := HP.out.2.1 a e hp; have h2 := (HV2.out.own.row.lt a.block e2).1; omega
          intro v5 W5 hO5 hb5 hg5 hat5
          have HK5 : KeptBut FO W2 W5 := (show KeptBut FO W2 _ from by (repeat (first | exact KeptBut.refl _ _ | apply keptBut_drew | apply kb_alloc))).trans (keptBut_grown (F := FO) hg5 (fun k e => by rw [HFO.out]; exact .inl e)) (fun _ _ h => h)
          have HAT : Aside0 (∀ j, v5.ownBlock = some j → j ≠ rb) := ⟨fun j e e2 => by
            subst e2
            rcases hat5 with h | h
            · rw [h] at e; exact HV2.out.ne e
            · rw [h] at e; have := HV2.out.box.lt; simp at e; omega⟩
          have HBX5 : Aside0 (RBox W5 rb #[.int .i64 k, .slice A5 us.length c5]) := ⟨HV2.out.box.at_ ((hg5.block rb (by have := HV2.out.box.lt; simp; omega) (fun e => HV2.out.ne e.symm)).trans (by first | exact heap_alloc_old W2 _ HV2.out.box.lt | rfl))⟩
          obtain ⟨A6, c6, rfl, hrd6⟩ := hO5.reads
          have HAT : Aside0 (∀ j, (Value.slice A6 (us.length + 1) c6).ownBlock = some j → j ≠ rb) := ⟨by have h := HAT.out; rw [List.length_append, List.length_cons, List.length_nil] at h; exact h⟩
          have HO5 := Aside0.mk (And.intro hO5 (HBB.out.mono hBs |>.trans ((show Below B W2 _ from by repeat (first | exact Below.refl _ _ | exact balloc (Below.refl _ _) hB2 _ | apply bdrew)).trans hb5)))
          have HAT6 : Aside0 ((Value.slice A6 (us.length + 1) c6).ownBlock = (Value.slice A5 us.length c5).ownBlock ∨ ∀ j, (Value.slice A6 (us.length + 1) c6).ownBlock = some j → w.heap.size ≤ j) := ⟨by
            rw [List.length_append, List.length_cons, List.length_nil] at hat5
            rcases hat5 with h | h
            · exact .inl h
            · refine .inr (fun j e => ?_)
              have e2 : some j = some _ := e.symm.trans h
              have h9 := Option.some.inj e2
              have h8 := HBB.out.size
              rw [h9]
              refine Nat.le_trans h8 ?_
              first | exact Nat.le_refl _ | exact (show W2.heap.size ≤ (W2.alloc _).heap.size by simp)⟩
          rw [List.length_append, List.length_cons, List.length_nil]
          clear hO5 hb5 hg5 hat5 hrd6
          refine hK.out _ _ ?_ (fun hHeld => ?_)
          · (repeat (first | exact HK10 | exact HK5 | exact KeptBut.refl _ _ | apply keptBut_drew | apply kb_alloc))
          clear hK K
          try simp only [Act.put, List.setIfInBounds_toArray, List.set_cons_zero, List.set_cons_succ]
          refine take_in (i := 8) (v := ?v8ep) rfl (by kernel_rfl) (by kernel_rfl) (by kernel_rfl) (fun _ _ _ h => h) (by rfl) ?hy8ep (by assumption) ?_
          case hy8ep => intro WW hSw; (try dsimp only at hSw); go_simp; try with_reducible rfl
          try simp only [Act.put, List.setIfInBounds_toArray, List.set_cons_zero, List.set_cons_succ]
          refine take_in (i := 9) (v := ?v9ep) rfl (by kernel_rfl) (by kernel_rfl) (by kernel_rfl) (fun _ _ _ h => h) (by rfl) ?hy9ep (by assumption) ?_
          case hy9ep => intro WW hSw; (try dsimp only at hSw); go_simp; try with_reducible rfl
          try simp only [Act.put, List.setIfInBounds_toArray, List.set_cons_zero, List.set_cons_succ]
          refine one_step (i := 10) (by kernel_rfl) rfl (fun K hK => ?_)
          have hc10 := HBX5.out.cells
          have hf10 := HBX5.out.free
          go_simp
          clear hc10 hf10
          obtain ⟨W10, hW10⟩ : ∃ W10, W10 = W5.setCell ⟨rb, 1, none⟩ (.slice A6 (us.length + 1) c6) := ⟨_, rfl⟩
          rw [← hW10]
          have HK10 : KeptBut FO W2 W10 := by rw [hW10]; exact HK5.trans (keptBut_set W5 ⟨rb, 1, none⟩ _ (by rw [HFO.out]; exact .inr rfl)) (fun _ _ h => h)
          have HW10 := Aside0.mk hW10
          clear hW10
          refine hK.out _ _ ?_ (fun hHeld => ?_)
          · (repeat (first | exact HK10 | exact HK5 | exact KeptBut.refl _ _ | apply keptBut_drew | apply kb_alloc))
          clear hK K
          try simp only [Act.put, List.setIfInBounds_toArray, List.set_cons_zero, List.set_cons_succ]
          refine wpAnyH_done (by kernel_rfl) ?_ _
          go_wp2
          go_ret
          have hf := HF.out
          have hW10 := HW10.out
          rw [HFA.out] at hf
          have hsz : W10.heap.size = W5.heap.size := by rw [hW10]; simp
          have hoth : ∀ j, j ≠ rb → W10.heap[j]? = W5.heap[j]? := fun j hj => by rw [hW10]; exact heap_setCell_other _ _ _ _ hj
          refine ⟨by rw [HRR.out.2, errV, hf]; rfl, ⟨.slice A6 (us.length + 1) c6, ?_, HAT6.out⟩, ?_, (keptBut_below HBB.out).trans (HK10.mono (fun j _ h => by rw [HFO.out] at h; exact h)) (fun j _ h => h)⟩
          · rw [HRR.out.1, hf, if_pos rfl]
            have hO := HO5.out.1
            rw [List.length_append, List.length_cons, List.length_nil] at hO
            have hoW : OwnV W10 B (.slice A6 (us.length + 1) c6) (us ++ [⟨vk, vn, vb, vss, vA, vp, vc⟩]) := ownV_at hO (fun j hj e => hoth j (by
              rcases e with e | e
              · exact HAT.out j e
              · have := HV2.out.at_; omega)) (fun u hu a e hp => by
                rcases List.mem_append.1 hu with hu | hu
                · exact HV2.out.old u hu a e hp
                · simp at hu; subst hu; exact HP.out.2.1 a e hp) (by have := HBX5.out.lt; have := HV2.out.at_; omega)
            exact ⟨by rw [hW10]; exact HBX5.out.put 1 _, hoW, HV2.out.at_, (fun e => HAT.out rb e rfl), (fun u hu a e hp => by
                rcases List.mem_append.1 hu with hu | hu
                · exact HV2.out.old u hu a e hp
                · simp at hu; subst hu; exact HP.out.2.1 a e hp)⟩
          · rw [hW10]
            exact Below.setCell HO5.out.2 (p := ⟨rb, 1, none⟩) HV2.out.at_ _
        · skip
          go_simp
          refine hK.out _ _ ?_ (fun hHeld => ?_)
          · (repeat (first | exact HK10 | exact HK5 | exact KeptBut.refl _ _ | apply keptBut_drew | apply kb_alloc))
          clear hK K
          try simp only [Act.put, List.setIfInBounds_toArray, List.set_cons_zero, List.set_cons_succ]
          refine one_step (i := 4) (by kernel_rfl) rfl (fun K hK => ?_)
          have hc4 := HV2.out.box.cells
          have hf4 := HV2.out.box.free
          have hc5 := rbox_more HV2.out.box
          go_simp
          clear hc4 hf4 hc5
          refine hK.out _ _ ?_ (fun hHeld => ?_)
          · (repeat (first | exact HK10 | exact HK5 | exact KeptBut.refl _ _ | apply keptBut_drew | apply kb_alloc))
          clear hK K
          try simp only [Act.put, List.setIfInBounds_toArray, List.set_cons_zero, List.set_cons_succ]
          refine one_step (i := 7) (by kernel_rfl) rfl (fun K hK => ?_)
          refine of_if (by rfl) ?_
          refine append_valsG (.tmp 28) (.tmp 30) rfl B (.slice A5 us.length c5) us rfl ?hown ?hbb (some ⟨W2.heap.size, 0, none⟩) [⟨vk, vn, vb, vss, vA, vp, vc⟩] 1 rfl ?hrd ?hap (by simp; omega) ?_
          case hown => exact HV2.out.own.below (by repeat (first | exact Below.refl _ _ | apply below_drew | apply below_more))
          case hbb => have := HV2.out.size; simp; omega
          case hrd =>
            have h := readsV_new W2 ⟨vk, vn, vb, vss, vA, vp, vc⟩ (HP.out.1.below HBB.out) HP.out.2.2
            dsimp only at h
            exact h.below (by repeat (first | exact Below.refl _ _ | apply bdrew))
          case hap => intro u hu a e hp e2; simp at hu; subst hu; have h1 := HP.out.2.1 a e hp; have h2 := (HV2.out.own.row.lt a.block e2).1; omega
          intro v5 W5 hO5 hb5 hg5 hat5
          have HK5 : KeptBut FO W2 W5 := (show KeptBut FO W2 _ from by (repeat (first | exact KeptBut.refl _ _ | apply keptBut_drew | apply kb_alloc))).trans (keptBut_grown (F := FO) hg5 (fun k e => by rw [HFO.out]; exact .inl e)) (fun _ _ h => h)
          have HAT : Aside0 (∀ j, v5.ownBlock = some j → j ≠ rb) := ⟨fun j e e2 => by
            subst e2
            rcases hat5 with h | h
            · rw [h] at e; exact HV2.out.ne e
            · rw [h] at e; have := HV2.out.box.lt; simp at e; omega⟩
          have HBX5 : Aside0 (RBox W5 rb #[.int .i64 k, .slice A5 us.length c5]) := ⟨HV2.out.box.at_ ((hg5.block rb (by have := HV2.out.box.lt; simp; omega) (fun e => HV2.out.ne e.symm)).trans (by first | exact heap_alloc_old W2 _ HV2.out.box.lt | rfl))⟩
          obtain ⟨A6, c6, rfl, hrd6⟩ := hO5.reads
          have HAT : Aside0 (∀ j, (Value.slice A6 (us.length + 1) c6).ownBlock = some j → j ≠ rb) := ⟨by have h := HAT.out; rw [List.length_append, List.length_cons, List.length_nil] at h; exact h⟩
          have HO5 := Aside0.mk (And.intro hO5 (HBB.out.mono hBs |>.trans ((show Below B W2 _ from by repeat (first | exact Below.refl _ _ | exact balloc (Below.refl _ _) hB2 _ | apply bdrew)).trans hb5)))
          have HAT6 : Aside0 ((Value.slice A6 (us.length + 1) c6).ownBlock = (Value.slice A5 us.length c5).ownBlock ∨ ∀ j, (Value.slice A6 (us.length + 1) c6).ownBlock = some j → w.heap.size ≤ j) := ⟨by
            rw [List.length_append, List.length_cons, List.length_nil] at hat5
            rcases hat5 with h | h
            · exact .inl h
            · refine .inr (fun j e => ?_)
              have e2 : some j = some _ := e.symm.trans h
              have h9 := Option.some.inj e2
              have h8 := HBB.out.size
              rw [h9]
              refine Nat.le_trans h8 ?_
              first | exact Nat.le_refl _ | exact (show W2.heap.size ≤ (W2.alloc _).heap.size by simp)⟩
          rw [List.length_append, List.length_cons, List.length_nil]
          clear hO5 hb5 hg5 hat5 hrd6
          refine hK.out _ _ ?_ (fun hHeld => ?_)
          · (repeat (first | exact HK10 | exact HK5 | exact KeptBut.refl _ _ | apply keptBut_drew | apply kb_alloc))
          clear hK K
          try simp only [Act.put, List.setIfInBounds_toArray, List.set_cons_zero, List.set_cons_succ]
          refine take_in (i := 8) (v := ?v8eq) rfl (by kernel_rfl) (by kernel_rfl) (by kernel_rfl) (fun _ _ _ h => h) (by rfl) ?hy8eq (by assumption) ?_
          case hy8eq => intro WW hSw; (try dsimp only at hSw); go_simp; try with_reducible rfl
          try simp only [Act.put, List.setIfInBounds_toArray, List.set_cons_zero, List.set_cons_succ]
          refine take_in (i := 9) (v := ?v9eq) rfl (by kernel_rfl) (by kernel_rfl) (by kernel_rfl) (fun _ _ _ h => h) (by rfl) ?hy9eq (by assumption) ?_
          case hy9eq => intro WW hSw; (try dsimp only at hSw); go_simp; try with_reducible rfl
          try simp only [Act.put, List.setIfInBounds_toArray, List.set_cons_zero, List.set_cons_succ]
          refine one_step (i := 10) (by kernel_rfl) rfl (fun K hK => ?_)
          have hc10 := HBX5.out.cells
          have hf10 := HBX5.out.free
          go_simp
          clear hc10 hf10
          obtain ⟨W10, hW10⟩ : ∃ W10, W10 = W5.setCell ⟨rb, 1, none⟩ (.slice A6 (us.length + 1) c6) := ⟨_, rfl⟩
          rw [← hW10]
          have HK10 : KeptBut FO W2 W10 := by rw [hW10]; exact HK5.trans (keptBut_set W5 ⟨rb, 1, none⟩ _ (by rw [HFO.out]; exact .inr rfl)) (fun _ _ h => h)
          have HW10 := Aside0.mk hW10
          clear hW10
          refine hK.out _ _ ?_ (fun hHeld => ?_)
          · (repeat (first | exact HK10 | exact HK5 | exact KeptBut.refl _ _ | apply keptBut_drew | apply kb_alloc))
          clear hK K
          try simp only [Act.put, List.setIfInBounds_toArray, List.set_cons_zero, List.set_cons_succ]
          refine wpAnyH_done (by kernel_rfl) ?_ _
          go_wp2
          go_ret
          have hf := HF.out
          have hW10 := HW10.out
          rw [HFA.out] at hf
          have hsz : W10.heap.size = W5.heap.size := by rw [hW10]; simp
          have hoth : ∀ j, j ≠ rb → W10.heap[j]? = W5.heap[j]? := fun j hj => by rw [hW10]; exact heap_setCell_other _ _ _ _ hj
          refine ⟨by rw [HRR.out.2, errV, hf]; rfl, ⟨.slice A6 (us.length + 1) c6, ?_, HAT6.out⟩, ?_, (keptBut_below HBB.out).trans (HK10.mono (fun j _ h => by rw [HFO.out] at h; exact h)) (fun j _ h => h)⟩
          · rw [HRR.out.1, hf, if_pos rfl]
            have hO := HO5.out.1
            rw [List.length_append, List.length_cons, List.length_nil] at hO
            have hoW : OwnV W10 B (.slice A6 (us.length + 1) c6) (us ++ [⟨vk, vn, vb, vss, vA, vp, vc⟩]) := ownV_at hO (fun j hj e => hoth j (by
              rcases e with e | e
              · exact HAT.out j e
              · have := HV2.out.at_; omega)) (fun u hu a e hp => by
                rcases List.mem_append.1 hu with hu | hu
                · exact HV2.out.old u hu a e hp
                · simp at hu; subst hu; exact HP.out.2.1 a e hp) (by have := HBX5.out.lt; have := HV2.out.at_; omega)
            exact ⟨by rw [hW10]; exact HBX5.out.put 1 _, hoW, HV2.out.at_, (fun e => HAT.out rb e rfl), (fun u hu a e hp => by
                rcases List.mem_append.1 hu with hu | hu
                · exact HV2.out.old u hu a e hp
                · simp at hu; subst hu; exact HP.out.2.1 a e hp)⟩
          · rw [hW10]
            exact Below.setCell HO5.out.2 (p := ⟨rb, 1, none⟩) HV2.out.at_ _
      · have hv0 : (vk != 0) = true := by simp [h0]
        have HFA : Aside0 ((true && (vk == k || vk == 0)) = false) := ⟨by simp [hk, h0]⟩
        clear hk h0
        go_upto_region 2 with (fail)
        refine wp_region_held_drew (S := (fun WW => Below W2.heap.size W2 WW)) (by kernel_rfl) ?_ (fun hHeld => ?_)
        · first | exact Below.refl _ _ | exact below_drew (Below.refl _ _)
        refine take_in (i := 0) (v := ?v0f) rfl (by kernel_rfl) (by kernel_rfl) (by kernel_rfl) (fun _ _ _ h => h) (by rfl) ?hy0f (by assumption) ?_
        case hy0f => intro WW hSw; (try dsimp only at hSw); go_simp; try with_reducible rfl
        try simp only [Act.put, List.setIfInBounds_toArray, List.set_cons_zero, List.set_cons_succ]
        refine take_in (i := 1) (v := .bool false) rfl (by kernel_rfl) (by kernel_rfl) (by kernel_rfl) (fun _ _ _ h => h) (by rfl) ?hy1f (by assumption) ?_
        case hy1f => intro WW hSw; (try dsimp only at hSw); go_simp; try with_reducible rfl
        try simp only [Act.put, List.setIfInBounds_toArray, List.set_cons_zero, List.set_cons_succ]
        refine take_in (i := 2) (v := .bool false) rfl (by kernel_rfl) (by kernel_rfl) (by kernel_rfl) (fun _ _ _ h => h) (by rfl) ?hy2f (by assumption) ?_
        case hy2f => intro WW hSw; (try dsimp only at hSw); go_simp; try with_reducible rfl
        try simp only [Act.put, List.setIfInBounds_toArray, List.set_cons_zero, List.set_cons_succ]
        refine take_in (i := 3) (v := ?v3f) rfl (by kernel_rfl) (by kernel_rfl) (by kernel_rfl) (fun _ _ _ h => h) (by rfl) ?hy3f (by assumption) ?_
        case hy3f => intro WW hSw; (try dsimp only at hSw); go_simp; try with_reducible rfl
        try simp only [Act.put, List.setIfInBounds_toArray, List.set_cons_zero, List.set_cons_succ]
        refine take_in (i := 4) (v := .int .i64 vk) rfl (by kernel_rfl) (by kernel_rfl) (by kernel_rfl) (fun _ _ _ h => h) (by rfl) ?hy4f (by assumption) ?_
        case hy4f => intro WW hSw; have h1 := HLX.out WW hSw; have h2 := HLR.out WW hSw; go_simp; try with_reducible rfl
        try simp only [Act.put, List.setIfInBounds_toArray, List.set_cons_zero, List.set_cons_succ]
        refine take_in (i := 5) (v := ?v5f) rfl (by kernel_rfl) (by kernel_rfl) (by kernel_rfl) (fun _ _ _ h => h) (by rfl) ?hy5f (by assumption) ?_
        case hy5f => intro WW hSw; (try dsimp only at hSw); go_simp; try with_reducible rfl
        try simp only [Act.put, List.setIfInBounds_toArray, List.set_cons_zero, List.set_cons_succ]
        refine take_in (i := 6) (v := ?v6f) rfl (by kernel_rfl) (by kernel_rfl) (by kernel_rfl) (fun _ _ _ h => h) (by rfl) ?hy6f (by assumption) ?_
        case hy6f => intro WW hSw; (try dsimp only at hSw); go_simp; try with_reducible rfl
        try simp only [Act.put, List.setIfInBounds_toArray, List.set_cons_zero, List.set_cons_succ]
        refine take_in (i := 7) (v := ?v7f) rfl (by kernel_rfl) (by kernel_rfl) (by kernel_rfl) (fun _ _ _ h => h) (by rfl) ?hy7f (by assumption) ?_
        case hy7f => intro WW hSw; (try dsimp only at hSw); go_simp; try with_reducible rfl
        try simp only [Act.put, List.setIfInBounds_toArray, List.set_cons_zero, List.set_cons_succ]
        refine take_in (i := 8) (v := .int .i64 k) rfl (by kernel_rfl) (by kernel_rfl) (by kernel_rfl) (fun _ _ _ h => h) (by rfl) ?hy8f (by assumption) ?_
        case hy8f => intro WW hSw; have h1 := HLX.out WW hSw; have h2 := HLR.out WW hSw; go_simp; try with_reducible rfl
        try simp only [Act.put, List.setIfInBounds_toArray, List.set_cons_zero, List.set_cons_succ]
        refine take_in (i := 9) (v := .bool true) rfl (by kernel_rfl) (by kernel_rfl) (by kernel_rfl) (fun _ _ _ h => h) (by rfl) ?hy9f (by assumption) ?_
        case hy9f => intro WW hSw; have hh := hvk; go_simp; try with_reducible rfl
        try simp only [Act.put, List.setIfInBounds_toArray, List.set_cons_zero, List.set_cons_succ]
        refine take_in (i := 10) (v := .bool true) rfl (by kernel_rfl) (by kernel_rfl) (by kernel_rfl) (fun _ _ _ h => h) (by rfl) ?hy10f (by assumption) ?_
        case hy10f => intro WW hSw; (try dsimp only at hSw); go_simp; try with_reducible rfl
        try simp only [Act.put, List.setIfInBounds_toArray, List.set_cons_zero, List.set_cons_succ]
        refine take_in (i := 11) (v := ?v11f) rfl (by kernel_rfl) (by kernel_rfl) (by kernel_rfl) (fun _ _ _ h => h) (by rfl) ?hy11f (by assumption) ?_
        case hy11f => intro WW hSw; (try dsimp only at hSw); go_simp; try with_reducible rfl
        try simp only [Act.put, List.setIfInBounds_toArray, List.set_cons_zero, List.set_cons_succ]
        refine take_in (i := 12) (v := .int .i64 vk) rfl (by kernel_rfl) (by kernel_rfl) (by kernel_rfl) (fun _ _ _ h => h) (by rfl) ?hy12f (by assumption) ?_
        case hy12f => intro WW hSw; have h1 := HLX.out WW hSw; have h2 := HLR.out WW hSw; go_simp; try with_reducible rfl
        try simp only [Act.put, List.setIfInBounds_toArray, List.set_cons_zero, List.set_cons_succ]
        refine take_in (i := 13) (v := .bool true) rfl (by kernel_rfl) (by kernel_rfl) (by kernel_rfl) (fun _ _ _ h => h) (by rfl) ?hy13f (by assumption) ?_
        case hy13f => intro WW hSw; have hh := hv0; go_simp; try with_reducible rfl
        try simp only [Act.put, List.setIfInBounds_toArray, List.set_cons_zero, List.set_cons_succ]
        refine take_in (i := 14) (v := .bool true) rfl (by kernel_rfl) (by kernel_rfl) (by kernel_rfl) (fun _ _ _ h => h) (by rfl) ?hy14f (by assumption) ?_
        case hy14f => intro WW hSw; (try dsimp only at hSw); go_simp; try with_reducible rfl
        try simp only [Act.put, List.setIfInBounds_toArray, List.set_cons_zero, List.set_cons_succ]
        refine take_in (i := 15) (v := .bool true) rfl (by kernel_rfl) (by kernel_rfl) (by kernel_rfl) (fun _ _ _ h => h) (by rfl) ?hy15f (by assumption) ?_
        case hy15f => intro WW hSw; (try dsimp only at hSw); go_simp; try with_reducible rfl
        try simp only [Act.put, List.setIfInBounds_toArray, List.set_cons_zero, List.set_cons_succ]
        refine wpAnyH_done (by kernel_rfl) ?_ _
        go_wp2
        go_ret
        have hf := HF.out
        rw [HFA.out] at hf
        exact ⟨by rw [HRR.out.2, errV, hf]; rfl, ⟨_, by rw [HRR.out.1, hf]; exact HV2.out.below (by repeat (first | exact Below.refl _ _ | apply below_drew)), .inl rfl⟩, (by repeat (first | exact HBB.out.mono hBs | apply bdrew)), keptBut_below (by repeat (first | exact HBB.out | apply bdrew))⟩
open Go.RowKit Go.Maps

theorem vecIs_in {W : World} {F : Nat → Prop} {b : Nat} {s : VS} (h : VecIs W F b s) : VecIs W (fun j => F j ∧ j < W.heap.size) b s := by
  obtain ⟨nv, bv, iv, dv, hv, m, hV⟩ := h
  exact ⟨nv, bv, iv, dv, hv, m, { hV with fb := ⟨hV.fb, hV.box.lt⟩, fm := ⟨hV.fm, hV.known.lt⟩, fn := fun k e => ⟨hV.fn k e, own_lt hV.nulls e⟩, fbl := fun k e => ⟨hV.fbl k e, own_lt hV.bools e⟩, fi := fun k e => ⟨hV.fi k e, own_lt hV.ints e⟩, fd := fun k e => ⟨hV.fd k e, own_lt hV.dict e⟩, fh := fun k e => ⟨hV.fh k e, own_lt hV.heap e⟩ }⟩
/-- The blocks that may have been changed since the values were copied. -/
def Mut (us : List V5) (B m : Nat) (k : Nat) : Prop := B ≤ k ∨ ∃ j, j < m ∧ j < us.length ∧ ∃ a, (us.getD j V5.zero).A = some a ∧ 0 < (us.getD j V5.zero).p.length ∧ a.block = k
structure HI (V2 wr : World) (k : Int) (bv br : Nat) (us vs : List V5) (p r m : Nat) : Prop where
  kept : KeptBut (Mut us V2.heap.size m) V2 wr
  ex : ∃ Z rv, VecIs wr Z bv (ofL k ((us.take p).filter (fitsV k))) ∧ (∀ j, Z j → V2.heap.size ≤ j ∧ j < wr.heap.size) ∧ RV wr V2.heap.size k br ((vs.take r).filter (fitsV k)) rv ∧ ¬ Z br ∧ ∀ j, rv.ownBlock = some j → ¬ Z j
theorem ownV_kept {W W' : World} {B : Nat} {rv : Value} {us : List V5} {Z : Nat → Prop} (h : OwnV W B rv us) (hK : KeptBut Z W W') (hB : B ≤ W.heap.size) (hZ : ∀ j, Z j → B ≤ j) (ho : ∀ j, rv.ownBlock = some j → ¬ Z j) (hold : ∀ u ∈ us, ∀ a, u.A = some a → 0 < u.p.length → a.block < B) : OwnV W' B rv us :=
  ownV_at h (fun k hk e => hK.block k hk (fun z => by
    rcases e with e | e
    · exact ho k e z
    · have := hZ k z; omega)) hold hB
theorem rv_kept {W W' : World} {B : Nat} {k : Int} {rb : Nat} {us : List V5} {rv : Value} {Z : Nat → Prop} (h : RV W B k rb us rv) (hK : KeptBut Z W W') (hZ : ∀ j, Z j → B ≤ j) (hb : ¬ Z rb) (ho : ∀ j, rv.ownBlock = some j → ¬ Z j) : RV W' B k rb us rv :=
  ⟨h.box.at_ (hK.block _ h.box.lt hb), ownV_kept h.own hK h.size hZ ho h.old, h.at_, h.ne, h.old⟩
theorem filter_snoc (k : Int) (vs : List V5) (j : Nat) (h : j < vs.length) : (vs.take (j + 1)).filter (fitsV k) = if fitsV k (vs.getD j V5.zero) then (vs.take j).filter (fitsV k) ++ [vs.getD j V5.zero] else (vs.take j).filter (fitsV k) := by
  rw [take_snoc vs j h, List.filter_append]
  cases hf : fitsV k (vs.getD j V5.zero) with
  | true => rw [if_pos rfl, List.filter_cons, if_pos hf, List.filter_nil]
  | false => rw [if_neg Bool.false_ne_true, List.filter_cons, if_neg (by rw [hf]; exact Bool.false_ne_true), List.filter_nil, List.append_nil]
theorem filter_fits (k : Int) (vs : List V5) : ∀ v ∈ vs.filter (fitsV k), fitsV k v = true := fun v hv => (List.mem_filter.1 hv).2
theorem HI.below {V2 wr W : World} {k : Int} {bv br : Nat} {us vs : List V5} {p r m : Nat} (h : HI V2 wr k bv br us vs p r m) (hb : Below wr.heap.size wr W) : HI V2 W k bv br us vs p r m := by
  obtain ⟨Z, rv, h1, h2, h3, h4, h5⟩ := h.ex
  exact ⟨h.kept.trans (keptBut_below (F := Mut us V2.heap.size m) hb) (fun _ _ h => h), Z, rv, vecIs_below h1 hb, fun j hj => ⟨(h2 j hj).1, Nat.lt_of_lt_of_le (h2 j hj).2 hb.size⟩, h3.below hb, h4, h5⟩
theorem HI.start {V2 V3 V4 : World} {k : Int} (hk : 1 ≤ k ∧ k ≤ 6) (us vs : List V5) (h1 : VecIs V3 (fun j => V2.heap.size ≤ j) (V2.heap.size + 1) (VS.new k)) (hb : Below V2.heap.size V2 V3) (h2 : RV V4 V3.heap.size k V3.heap.size [] (.slice none 0 0)) (hb2 : Below V3.heap.size V3 V4) : HI V2 V4 k (V2.heap.size + 1) V3.heap.size us vs 0 0 0 := by
  have hbox := h2.box
  refine ⟨(keptBut_below (F := Mut us V2.heap.size 0) hb).trans (keptBut_below (F := Mut us V2.heap.size 0) hb2) (fun _ _ h => h), fun j => V2.heap.size ≤ j ∧ j < V3.heap.size, .slice none 0 0, vecIs_below (vecIs_in h1) hb2, fun j hj => ⟨hj.1, Nat.lt_of_lt_of_le hj.2 hb2.size⟩, ⟨hbox, ownV_nil _ _, hb.size, by simp [Value.ownBlock], fun u hu => by cases hu⟩, fun h => by omega, fun j e => by cases e⟩
/-- The program's column takes in, or refuses, one value. -/
theorem HI.stepP {V2 wr WW : World} {k : Int} (hk : 1 ≤ k ∧ k ≤ 6) {bv br : Nat} {us vs : List V5} {i r m : Nat} (h : HI V2 wr k bv br us vs i r m) (hb : Below wr.heap.size wr WW) (hi : i < us.length) (hN : us.length ≤ 100000000) (hrd : ReadsI WW (us.getD i V5.zero).A (us.getD i V5.zero).p) :
    Calls Tryd.prog 12 #[.pointer (some ⟨bv, 0, none⟩), (us.getD i V5.zero).val] WW fun e w' => e = .returned (.int .i64 (errV k (us.getD i V5.zero))) ∧ Aside0 (HI V2 w' k bv br us vs (i + 1) r m) ∧ Below V2.heap.size WW w' := by
  obtain ⟨hkp, Z, rv, h1, h2, h3, h4, h5⟩ := h.below hb
  have hfl := filter_fits k (us.take i)
  have hle : ((us.take i).filter (fitsV k)).length ≤ us.length := Nat.le_trans (List.length_filter_le _ _) (by rw [List.length_take]; omega)
  have hsn := filter_snoc k us i hi
  generalize us.getD i V5.zero = u at hrd hsn ⊢
  refine (appOk_any k hk u Z bv (ofL k ((us.take i).filter (fitsV k))) WW h1 (ofL_k _ _) (wf_ofL k hk _ hfl) (by rw [ofL_nl, List.length_map]; have := room_ge k; omega) hrd).mono ?_
  rintro e w' ⟨he, hV, hK⟩
  have hst : stepV (ofL k ((us.take i).filter (fitsV k))) u = ofL k ((us.take (i + 1)).filter (fitsV k)) := by
    rw [stepV, ofL_k, hsn]
    cases hf : fitsV k u with
    | true => rw [if_pos rfl, if_pos rfl, ofL_snoc2]
    | false => rw [if_neg (by simp), if_neg (by simp)]
  rw [hst] at hV
  have hsz := h3.size
  have hbx := h3.box.lt
  refine ⟨he, ⟨⟨hkp.trans hK (fun j _ z => .inl (h2 j z).1), fun j => (orNew Z WW) j ∧ j < w'.heap.size, rv, vecIs_in hV, fun j hj => ⟨?_, hj.2⟩, rv_kept h3 hK (fun j z => (h2 j z).1) h4 h5, fun z => ?_, fun j e z => ?_⟩⟩, hK.below (fun j z => (h2 j z).1) hsz⟩
  · rcases hj.1 with z | z
    · exact (h2 j z).1
    · omega
  · rcases z.1 with z | z
    · exact h4 z
    · omega
  · rcases z.1 with z | z
    · exact h5 j e z
    · have := (h3.own.row.lt j e).2; omega
/-- The document's takes in, or refuses, one value. -/
theorem HI.stepR {V2 wr WW : World} {k : Int} {bv br : Nat} {us vs : List V5} {p i m : Nat} (h : HI V2 wr k bv br us vs p i m) (hb : Below wr.heap.size wr WW) (hi : i < vs.length) (hN : vs.length ≤ 100000000) (hT : Lib.Utf8Tabs 0 1 WW) (hrd : ReadsI WW (vs.getD i V5.zero).A (vs.getD i V5.zero).p) (hss : (vs.getD i V5.zero).s.size ≤ 9223372036854775807)
    (hold : ∀ a, (vs.getD i V5.zero).A = some a → 0 < (vs.getD i V5.zero).p.length → a.block < V2.heap.size) (hnum : -9223372036854775808 ≤ (vs.getD i V5.zero).n ∧ (vs.getD i V5.zero).n ≤ 9223372036854775807) :
    Calls Tryd.prog 13 #[.pointer (some ⟨br, 0, none⟩), (vs.getD i V5.zero).val] WW fun e w' => e = .returned (.int .i64 (errV k (vs.getD i V5.zero))) ∧ Aside0 (HI V2 w' k bv br us vs p (i + 1) m) ∧ Below V2.heap.size WW w' := by
  obtain ⟨hkp, Z, rv, h1, h2, h3, h4, h5⟩ := h.below hb
  have hle : ((vs.take i).filter (fitsV k)).length ≤ vs.length := Nat.le_trans (List.length_filter_le _ _) (by rw [List.length_take]; omega)
  have hsn := filter_snoc k vs i hi
  generalize vs.getD i V5.zero = v at hrd hsn hss hold hnum ⊢
  refine (rapp_all k br V2.heap.size ((vs.take i).filter (fitsV k)) rv v WW h3 hT hrd hss hold (by omega) hnum).mono ?_
  rintro e w' ⟨he, ⟨rv', hR, ha⟩, hB, hK⟩
  rw [← hsn] at hR
  refine ⟨he, ⟨⟨hkp.trans hK (fun j _ z => .inl (by
    rcases z with z | z
    · exact (h3.own.row.lt j z).1
    · rw [z]; exact h3.at_)), Z, rv', vecIs_at h1 (fun j hj z => hK.block j hj (fun y => by
      rcases y with y | y
      · exact h5 j y z
      · exact h4 (y ▸ z))), fun j hj => ⟨(h2 j hj).1, Nat.lt_of_lt_of_le (h2 j hj).2 hK.size⟩, hR, h4, fun j e z => ?_⟩⟩, hB⟩
  rcases ha with ha | ha
  · exact h5 j (ha ▸ e) z
  · have := ha j e; have := (h2 j z).2; omega
theorem readsI_blk {W W' : World} {A : Option Addr} {p : List Int} (h : ReadsI W A p) (hk : ∀ a, A = some a → 0 < p.length → W'.heap[a.block]? = W.heap[a.block]?) : ReadsI W' A p := by
  refine ⟨h.1, fun hp => ?_⟩
  obtain ⟨ad, e, hc⟩ := h.2 hp
  refine ⟨ad, e, fun j hj => ?_⟩
  have hb : (ad.add j).block = ad.block := by
    unfold Addr.add
    split <;> rfl
  rw [← hc j hj]
  unfold World.cell?
  rw [hb, hk ad e hp]
/-- A copied path is changed. -/
theorem HI.mutate {V2 wr W' : World} {k : Int} {bv br : Nat} {us vs : List V5} {i : Nat} (h : HI V2 wr k bv br us vs (i + 1) (i + 1) i) (hi : i < us.length) {B1 : Nat} (hp : 0 < (us.getD i V5.zero).p.length → ∀ a, (us.getD i V5.zero).A = some a → B1 ≤ a.block ∧ a.block < V2.heap.size) (hv1 : ∀ v ∈ vs, ∀ a, v.A = some a → 0 < v.p.length → a.block < B1)
    (hK : KeptBut (fun j => 0 < (us.getD i V5.zero).p.length ∧ ∃ a, (us.getD i V5.zero).A = some a ∧ a.block = j) wr W') : HI V2 W' k bv br us vs (i + 1) (i + 1) (i + 1) := by
  obtain ⟨hkp, Z, rv, h1, h2, h3, h4, h5⟩ := h
  have hlt : ∀ j, (0 < (us.getD i V5.zero).p.length ∧ ∃ a, (us.getD i V5.zero).A = some a ∧ a.block = j) → j < V2.heap.size := fun j ⟨h0, a, e, eb⟩ => by rw [← eb]; exact (hp h0 a e).2
  refine ⟨(hkp.mono (fun j _ z => ?_)).trans hK (fun j _ z => .inr ⟨i, by omega, hi, ?_⟩), Z, rv, vecIs_at h1 (fun j hj z => hK.block j hj (fun y => by have := hlt j y; have := (h2 j z).1; omega)), fun j hj => ⟨(h2 j hj).1, Nat.lt_of_lt_of_le (h2 j hj).2 hK.size⟩, ?_, h4, h5⟩
  · rcases z with z | ⟨j', hj', hl, x⟩
    · exact .inl z
    · exact .inr ⟨j', by omega, hl, x⟩
  · obtain ⟨h0, a, e, eb⟩ := z
    exact ⟨a, e, h0, eb⟩
  · refine ⟨h3.box.at_ (hK.block _ h3.box.lt (fun y => by have := hlt _ y; have := h3.at_; omega)), ?_, h3.at_, h3.ne, h3.old⟩
    refine ⟨own_at h3.own.row (fun j hj e => hK.block j hj (fun y => by have := hlt _ y; have := (h3.own.row.lt j e).1; omega)), fun v hv => ?_, h3.own.apart, h3.own.num⟩
    have hvm : v ∈ vs := List.mem_of_mem_take (List.mem_filter.1 hv).1
    refine readsI_blk (h3.own.path v hv) (fun a e h0 => hK.block _ (by have := h3.old v hv a e h0; have := h3.size; omega) (fun y => ?_))
    obtain ⟨y0, b, eb, ebb⟩ := y
    have := (hp y0 b eb).1
    have := hv1 v hvm a e h0
    omega
end Go.Proofs.YtbdbcbpcekpcoaaDoor
