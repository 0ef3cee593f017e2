/- Words for rawgraph.Sorted: what stays when a box or a row of the call's own turns. -/
import Derived.Test.YtffifhinhemkdaaDoorRgTold
import Derived.Test.YtffifhinhemkdaaDoorRgSort
set_option linter.unusedVariables false
set_option linter.unusedSimpArgs false
namespace Go.Proofs.YtffifhinhemkdaaDoor
open Go.RowKit Go.Shelf Go.Lib

theorem own_base {W : World} {B B' n st : Nat} {e : TypeId} {v : Value} {xs : List Value} (h : W.ownsRow B e st v n xs) (hb : B' ≤ B) : W.ownsRow B' e st v n xs := by
  obtain ⟨hl, hs⟩ := h
  refine ⟨hl, ?_⟩
  rcases hs with h0 | ⟨g, cap, cur, hv, hg, hr⟩
  · exact .inl h0
  · exact .inr ⟨g, cap, cur, hv, Nat.le_trans hb hg, hr⟩
theorem own_keep {W W' : World} {B n st : Nat} {e : TypeId} {v : Value} {xs : List Value} (h : W.ownsRow B e st v n xs) (hk : ∀ k, v.ownBlock = some k → W'.heap[k]? = W.heap[k]?) : W'.ownsRow B e st v n xs := by
  obtain ⟨hl, hs⟩ := h
  refine ⟨hl, ?_⟩
  rcases hs with h0 | ⟨g, cap, cur, rfl, hg, hh, hr⟩
  · exact .inl h0
  · exact .inr ⟨g, cap, cur, rfl, hg, (hk g rfl).trans hh, hr⟩
theorem own_tag {W : World} {B n st b : Nat} {e e' : TypeId} {v : Value} {xs : List Value} {cs : Array Value} {fr : Nat × Nat} (h : W.ownsRow B e st v n xs) (hb : W.heap[b]? = some (.cells cs e' fr)) (hne : e ≠ e') : v.ownBlock ≠ some b := by
  intro e1
  rcases h.2 with ⟨rfl, _⟩ | ⟨g, cap, cur, rfl, _, hh, _⟩
  · cases e1
  · obtain rfl : g = b := Option.some.inj e1
    rw [hb] at hh
    cases hh
    exact hne rfl
theorem own_two {W : World} {B B' n n' st st' : Nat} {e e' : TypeId} {v v' : Value} {xs xs' : List Value} (h : W.ownsRow B e st v n xs) (h' : W.ownsRow B' e' st' v' n' xs') (hne : e' ≠ e) : ∀ k, v.ownBlock = some k → v'.ownBlock ≠ some k := by
  intro k hk
  rcases h.2 with ⟨rfl, _⟩ | ⟨g, cap, cur, rfl, _, hh, _⟩
  · cases hk
  · obtain rfl : g = k := Option.some.inj hk
    exact own_tag h' hh hne
theorem below_own {w W W' : World} {v : Value} (h : Below w.heap.size w W) (hg : W.grownBy W' v.ownBlock) (ho : ∀ k, v.ownBlock = some k → w.heap.size ≤ k) : Below w.heap.size w W' :=
  ⟨hg.os.trans h.os, hg.tape.trans h.tape, hg.output.trans h.output, Nat.le_trans h.size hg.size, fun k hk => (hg.block k (Nat.lt_of_lt_of_le hk h.size) (fun e => by have := ho k e.symm; omega)).trans (h.block k hk)⟩
theorem blockQ {W : World} {A : Option Addr} {l : List QD} (h : ReadsQ W A l) : ∀ ad, A = some ad → l ≠ [] → ad.block < W.heap.size := fun ad e hne => by
  obtain ⟨ad2, e2, hh⟩ := h.row 0 (List.length_pos_iff.2 hne)
  rw [e] at e2
  cases e2
  have h1 := hh.lt
  rw [block_add] at h1
  exact h1
/-- Cells that are all slices. -/
def Slices (cs : Array Value) : Prop := ∀ (i : Nat) (v : Value), cs[i]? = some v → ∃ A n c, v = Value.slice A n c
theorem slices4 (A B C D : Option Addr) (a b c d a2 b2 c2 d2 : Nat) : Slices #[.slice A a a2, .slice B b b2, .slice C c c2, .slice D d d2] := by
  intro i v h
  match i with
  | 0 => cases h; exact ⟨_, _, _, rfl⟩
  | 1 => cases h; exact ⟨_, _, _, rfl⟩
  | 2 => cases h; exact ⟨_, _, _, rfl⟩
  | 3 => cases h; exact ⟨_, _, _, rfl⟩
  | i + 4 => simp at h
theorem off_box {W : World} {b : Nat} {cs : Array Value} {ad : Addr} {v : Value} (hb : GBox W b cs) (hs : Slices cs) (hsp : ad.spot = none) (hc : W.cell? ad = some v) (hv : ∀ A n c, v ≠ Value.slice A n c) : ad.block ≠ b := by
  intro e
  obtain ⟨k, o, s⟩ := ad
  simp only at e hsp
  subst e
  subst hsp
  rw [hb.cells o] at hc
  obtain ⟨A, n, c, h⟩ := hs o v hc
  exact hv A n c h
theorem ReadsP.off {W : World} {A : Option Addr} {l : List PD} (h : ReadsP W A l) {b : Nat} {cs : Array Value} (hb : GBox W b cs) (hs : Slices cs) : ∀ ad, A = some ad → l ≠ [] → ad.block ≠ b := fun ad e hne => by
  obtain ⟨ad2, e2, hh⟩ := h.row 0 (List.length_pos_iff.2 hne)
  rw [e] at e2
  cases e2
  have h1 := off_box hb hs hh.spot hh.c0 (fun A n c e => by cases e)
  rw [block_add] at h1
  exact h1
theorem ReadsT.off {W : World} {A : Option Addr} {l : List TD} (h : ReadsT W A l) {b : Nat} {cs : Array Value} (hb : GBox W b cs) (hs : Slices cs) : ∀ ad, A = some ad → l ≠ [] → ad.block ≠ b := fun ad e hne => by
  obtain ⟨ad2, e2, hh⟩ := h.row 0 (List.length_pos_iff.2 hne)
  rw [e] at e2
  cases e2
  have h1 := off_box hb hs hh.spot hh.c0 (fun A n c e => by cases e)
  rw [block_add] at h1
  exact h1
/-- Types that can be read, all below a place in the heap. -/
structure ZT (B : Nat) (W : World) (A : Option Addr) (ts : List TD) : Prop where
  reads : ReadsT W A ts
  row : ∀ ad, A = some ad → ts ≠ [] → ad.block < B
  props : ∀ t ∈ ts, ∀ ad, t.A = some ad → t.ps ≠ [] → ad.block < B
theorem ZT.of {W : World} {A : Option Addr} {ts : List TD} (h : ReadsT W A ts) : ZT W.heap.size W A ts := ⟨h, fun ad e hne => by
  obtain ⟨ad2, e2, hh⟩ := h.row 0 (List.length_pos_iff.2 hne)
  rw [e] at e2
  cases e2
  have h1 := hh.lt
  rw [block_add] at h1
  exact h1, fun t ht ad e hne => by
  obtain ⟨ad2, e2, hh⟩ := (h.props t ht).row 0 (List.length_pos_iff.2 hne)
  rw [e] at e2
  cases e2
  have h1 := hh.lt
  rw [block_add] at h1
  exact h1⟩
theorem ZT.keep {B : Nat} {W W' : World} {A : Option Addr} {ts : List TD} (h : ZT B W A ts) (hk : ∀ k, k < B → W'.heap[k]? = W.heap[k]?) : ZT B W' A ts :=
  ⟨h.reads.keep (fun ad e hne => hk _ (h.row ad e hne)) (fun t ht => ⟨h.reads.txt t ht, (h.reads.props t ht).keep (fun ad e hne => hk _ (h.props t ht ad e hne)) (fun p hp => (h.reads.props t ht).all p hp)⟩), h.row, h.props⟩
theorem ZT.keep_box {B b : Nat} {W W' : World} {A : Option Addr} {ts : List TD} {cs : Array Value} (h : ZT B W A ts) (hb : GBox W b cs) (hs : Slices cs) (hk : ∀ k, k < B → k ≠ b → W'.heap[k]? = W.heap[k]?) : ZT B W' A ts :=
  ⟨h.reads.keep (fun ad e hne => hk _ (h.row ad e hne) (h.reads.off hb hs ad e hne)) (fun t ht => ⟨h.reads.txt t ht, (h.reads.props t ht).keep (fun ad e hne => hk _ (h.props t ht ad e hne) ((h.reads.props t ht).off hb hs ad e hne)) (fun p hp => (h.reads.props t ht).all p hp)⟩), h.row, h.props⟩
def ND.con (x : ND) : Int × ByteArray × List QD := (x.id, x.lb, x.qs)
def ED.con (x : ED) : Int × ByteArray × Int × Int × List QD := (x.id, x.lb, x.f, x.t, x.qs)
def toldN (ts : List TD) (x : ND) : Int × ByteArray × List QD := (x.id, x.lb, toldL (typeOf ts x.key).ps x.qs)
def toldE (ts : List TD) (x : ED) : Int × ByteArray × Int × Int × List QD := (x.id, x.lb, x.f, x.t, toldL (typeOf ts x.key).ps x.qs)
theorem props_keep {w W W' : World} {A : Option Addr} {qs : List QD} (h : ReadsQ W A qs) (hp : ∀ q ∈ qs, ReadsI w q.v.A q.v.p) (hb : Below w.heap.size w W') (hk : ∀ ad, A = some ad → qs ≠ [] → W'.heap[ad.block]? = W.heap[ad.block]?) : ReadsQ W' A qs :=
  h.keep hk (fun q hq => ⟨h.txt q hq, h.num q hq, (hp q hq).below hb⟩)
theorem grow_trans {w1 w2 w3 : World} {r : Option Nat} (h1 : w1.grownBy w2 r) (h2 : w2.grownBy w3 r) : w1.grownBy w3 r :=
  ⟨h2.os.trans h1.os, h2.tape.trans h1.tape, h2.output.trans h1.output, Nat.le_trans h1.size h2.size, fun k hk hne => (h2.block k (Nat.lt_of_lt_of_le hk h1.size) hne).trans (h1.block k hk hne)⟩
theorem grow_set (W : World) (g i : Nat) (v : Value) : W.grownBy (W.setCell ⟨g, i, none⟩ v) (some g) :=
  ⟨rfl, rfl, rfl, by simp, fun k _ hne => heap_setCell_other _ ⟨g, i, none⟩ k v (fun e => hne (by rw [e]))⟩
theorem ClonedI.slice {w W : World} {ts ts2 : List TD} {v : Value} {n : Nat} (h : ClonedI w ts v W ts2) (hn : n = ts.length) (hl : n ≤ 9223372036854775807) : ∃ A c, v = .slice A n c ∧ ReadsT W A ts2 := by
  obtain ⟨A, c, hv, hr, _⟩ := h.reads (by omega)
  rw [h.len, ← hn] at hv
  exact ⟨A, c, hv, hr⟩
/-- Records whose properties are told, so far as they are. -/
structure ToldN (Bz : Nat) (w : World) (ts : List TD) (ns : List ND) (v : Value) (W : World) (j : Nat) (ns2 : List ND) : Prop where
  len : ns2.length = ns.length
  done : ns2.map ND.con = (ns.take j).map (toldN ts) ++ (ns.drop j).map ND.con
  own : W.ownsRow w.heap.size 52 3 v ns.length (ns2.flatMap cellsND)
  good : ∀ x ∈ ns2, goodND W x
  off : ∀ x ∈ ns2, ∀ ad, x.A = some ad → x.qs ≠ [] → v.ownBlock ≠ some ad.block
  zone : ∀ x ∈ ns2, ∀ ad, x.A = some ad → x.qs ≠ [] → ad.block < w.heap.size ∨ Bz ≤ ad.block
  path : ∀ x ∈ ns2, ∀ q ∈ x.qs, ReadsI w q.v.A q.v.p
  below : Below w.heap.size w W
theorem ToldN.first {Bz : Nat} {w W : World} {ts : List TD} {ns : List ND} {A : Option Addr} {v : Value} (hr : ReadsN w A ns) (ho : W.ownsRow w.heap.size 52 3 v ns.length (ns.flatMap cellsND)) (hb : Below w.heap.size w W) : ToldN Bz w ts ns v W 0 ns :=
  ⟨rfl, by simp, ho, fun x hx => (ReadsG.all_N hr x hx).below hb, fun x hx ad e hne e2 => by
    have hp := hr.props x hx
    obtain ⟨ad2, e3, hh⟩ := hp.row 0 (List.length_pos_iff.2 hne)
    rw [e] at e3
    cases e3
    have h1 := hh.lt
    rw [block_add] at h1
    have := (ho.lt _ e2).1
    omega, fun x hx ad e hne => by
    have hp := hr.props x hx
    obtain ⟨ad2, e3, hh⟩ := hp.row 0 (List.length_pos_iff.2 hne)
    rw [e] at e3
    cases e3
    have h1 := hh.lt
    rw [block_add] at h1
    exact .inl h1, fun x hx q hq => (hr.props x hx).path q hq, hb⟩
theorem ToldN.con_at {Bz : Nat} {w W : World} {ts : List TD} {ns ns2 : List ND} {v : Value} {j : Nat} (h : ToldN Bz w ts ns v W j ns2) (hj : j < ns.length) : (ns2.getD j ND.zero).con = (ns.getD j ND.zero).con := by
  have h1 := congrArg (fun l => l[j]?) h.done
  have hl : ((ns.take j).map (toldN ts)).length = j := by rw [List.length_map, List.length_take]; omega
  have hj2 : j < ns2.length := by rw [h.len]; exact hj
  simp only [List.getElem?_map] at h1
  rw [List.getElem?_append_right (by omega), hl, Nat.sub_self, List.getElem?_map, List.getElem?_drop, Nat.add_zero, List.getElem?_eq_getElem hj, List.getElem?_eq_getElem hj2] at h1
  rw [List.getD_eq_getElem?_getD, List.getD_eq_getElem?_getD, List.getElem?_eq_getElem hj, List.getElem?_eq_getElem hj2]
  exact Option.some.inj h1
theorem ToldN.step {Bz : Nat} {w wr W : World} {ts : List TD} {ns ns2 : List ND} {g n cg j : Nat} {A3 : Option Addr} {c3 : Nat} {l : List QD} (h : ToldN Bz w ts ns (.slice (some ⟨g, 0, none⟩) n cg) wr j ns2) (hj : j < ns2.length) (hb : Below wr.heap.size wr W)
    (hl : l = toldL (typeOf ts (ns2.getD j ND.zero).key).ps (ns2.getD j ND.zero).qs) (hr : ReadsQ W A3 l) (hf : ∀ ad, A3 = some ad → wr.heap.size ≤ ad.block) (hbz : Bz ≤ wr.heap.size) :
    ToldN Bz w ts ns (.slice (some ⟨g, 0, none⟩) n cg) (W.setCell ⟨g, j * 3 + 2, none⟩ (.slice A3 l.length c3)) (j + 1) (ns2.set j ⟨(ns2.getD j ND.zero).id, (ns2.getD j ND.zero).lb, A3, l, c3⟩) := by
  have hgl := h.own.lt g rfl
  have hjn : j < ns.length := by rw [← h.len]; exact hj
  have hnl : n = ns.length := by
    rcases h.own.2 with ⟨e, _⟩ | ⟨_, _, _, e, _⟩
    · cases e
    · exact (Value.slice.inj e).2.1
  subst hnl
  have hca := h.con_at hjn
  have hkk : ∀ k, k ≠ g → (W.setCell ⟨g, j * 3 + 2, none⟩ (.slice A3 l.length c3)).heap[k]? = W.heap[k]? := fun k e => heap_setCell_other _ ⟨g, j * 3 + 2, none⟩ _ _ e
  have hbs : Below w.heap.size w (W.setCell ⟨g, j * 3 + 2, none⟩ (.slice A3 l.length c3)) := below_set (below_then h.below hb) (p := ⟨g, j * 3 + 2, none⟩) hgl.1 _
  refine ⟨by rw [List.length_set]; exact h.len, ?_, ?_, ?_, ?_, ?_, ?_, hbs⟩
  · have hy : (⟨(ns2.getD j ND.zero).id, (ns2.getD j ND.zero).lb, A3, l, c3⟩ : ND).con = toldN ts (ns.getD j ND.zero) := by
      simp only [ND.con, Prod.mk.injEq] at hca
      obtain ⟨e0, e1, e2⟩ := hca
      simp only [ND.con, toldN, ND.key, hl]
      rw [e0, e1, e2]
    rw [List.map_set, hy, h.done]
    have hlt : ((ns.take j).map (toldN ts)).length = j := by rw [List.length_map, List.length_take]; omega
    rw [List.set_append, if_neg (by omega), hlt, Nat.sub_self, drop_cons ns ND.zero j hjn, List.map_cons, List.set_cons_zero, take_getD ns ND.zero j hjn, List.map_append, List.append_assoc]
    rfl
  · rw [flat_set cellsND 3 cellsND_len 2 (.slice A3 l.length c3) _ ns2 j (by decide) (fun x hx => by
      have e : ns2.getD j ND.zero = x := by rw [List.getD_eq_getElem?_getD, hx]; rfl
      rw [e]
      rfl)]
    exact ((own_below h.own hb).stored (j * 3 + 2) _).1
  · intro x hx
    rcases List.mem_or_eq_of_mem_set hx with hx | rfl
    · have hg := (h.good x hx).below hb
      exact ⟨hg.1, hg.2.keep (fun ad e hne => hkk _ (fun e2 => h.off x hx ad e hne (by rw [e2]; rfl))) (fun q hq => ⟨hg.2.txt q hq, hg.2.num q hq, (h.path x hx q hq).below hbs⟩)⟩
    · exact ⟨(h.good _ (getD_in ns2 ND.zero j hj)).1, hr.keep (fun ad e hne => hkk _ (fun e2 => by have := hf ad e; omega)) (fun q hq => ⟨hr.txt q hq, hr.num q hq, (h.path _ (getD_in ns2 ND.zero j hj) q (toldL_mem (ps := (typeOf ts (ns2.getD j ND.zero).key).ps) (by rw [← hl]; exact hq))).below hbs⟩)⟩
  · intro x hx ad e hne
    rcases List.mem_or_eq_of_mem_set hx with hx | rfl
    · exact h.off x hx ad e hne
    · intro e2
      have e3 : g = ad.block := Option.some.inj e2
      have := hf ad e
      omega
  · intro x hx ad e hne
    rcases List.mem_or_eq_of_mem_set hx with hx | rfl
    · exact h.zone x hx ad e hne
    · exact .inr (Nat.le_trans hbz (hf ad e))
  · intro x hx q hq
    rcases List.mem_or_eq_of_mem_set hx with hx | rfl
    · exact h.path x hx q hq
    · exact h.path _ (getD_in ns2 ND.zero j hj) q (toldL_mem (ps := (typeOf ts (ns2.getD j ND.zero).key).ps) (by rw [← hl]; exact hq))
/-- Records whose properties are told, so far as they are. -/
structure ToldE (Bz : Nat) (w : World) (ts : List TD) (ns : List ED) (v : Value) (W : World) (j : Nat) (ns2 : List ED) : Prop where
  len : ns2.length = ns.length
  done : ns2.map ED.con = (ns.take j).map (toldE ts) ++ (ns.drop j).map ED.con
  own : W.ownsRow w.heap.size 55 5 v ns.length (ns2.flatMap cellsED)
  good : ∀ x ∈ ns2, goodED W x
  off : ∀ x ∈ ns2, ∀ ad, x.A = some ad → x.qs ≠ [] → v.ownBlock ≠ some ad.block
  zone : ∀ x ∈ ns2, ∀ ad, x.A = some ad → x.qs ≠ [] → ad.block < w.heap.size ∨ Bz ≤ ad.block
  path : ∀ x ∈ ns2, ∀ q ∈ x.qs, ReadsI w q.v.A q.v.p
  below : Below w.heap.size w W
theorem ToldE.first {Bz : Nat} {w W : World} {ts : List TD} {ns : List ED} {A : Option Addr} {v : Value} (hr : ReadsE w A ns) (ho : W.ownsRow w.heap.size 55 5 v ns.length (ns.flatMap cellsED)) (hb : Below w.heap.size w W) : ToldE Bz w ts ns v W 0 ns :=
  ⟨rfl, by simp, ho, fun x hx => (ReadsG.all_E hr x hx).below hb, fun x hx ad e hne e2 => by
    have hp := hr.props x hx
    obtain ⟨ad2, e3, hh⟩ := hp.row 0 (List.length_pos_iff.2 hne)
    rw [e] at e3
    cases e3
    have h1 := hh.lt
    rw [block_add] at h1
    have := (ho.lt _ e2).1
    omega, fun x hx ad e hne => by
    have hp := hr.props x hx
    obtain ⟨ad2, e3, hh⟩ := hp.row 0 (List.length_pos_iff.2 hne)
    rw [e] at e3
    cases e3
    have h1 := hh.lt
    rw [block_add] at h1
    exact .inl h1, fun x hx q hq => (hr.props x hx).path q hq, hb⟩
theorem ToldE.con_at {Bz : Nat} {w W : World} {ts : List TD} {ns ns2 : List ED} {v : Value} {j : Nat} (h : ToldE Bz w ts ns v W j ns2) (hj : j < ns.length) : (ns2.getD j ED.zero).con = (ns.getD j ED.zero).con := by
  have h1 := congrArg (fun l => l[j]?) h.done
  have hl : ((ns.take j).map (toldE ts)).length = j := by rw [List.length_map, List.length_take]; omega
  have hj2 : j < ns2.length := by rw [h.len]; exact hj
  simp only [List.getElem?_map] at h1
  rw [List.getElem?_append_right (by omega), hl, Nat.sub_self, List.getElem?_map, List.getElem?_drop, Nat.add_zero, List.getElem?_eq_getElem hj, List.getElem?_eq_getElem hj2] at h1
  rw [List.getD_eq_getElem?_getD, List.getD_eq_getElem?_getD, List.getElem?_eq_getElem hj, List.getElem?_eq_getElem hj2]
  exact Option.some.inj h1
theorem ToldE.step {Bz : Nat} {w wr W : World} {ts : List TD} {ns ns2 : List ED} {g n cg j : Nat} {A3 : Option Addr} {c3 : Nat} {l : List QD} (h : ToldE Bz w ts ns (.slice (some ⟨g, 0, none⟩) n cg) wr j ns2) (hj : j < ns2.length) (hb : Below wr.heap.size wr W)
    (hl : l = toldL (typeOf ts (ns2.getD j ED.zero).key).ps (ns2.getD j ED.zero).qs) (hr : ReadsQ W A3 l) (hf : ∀ ad, A3 = some ad → wr.heap.size ≤ ad.block) (hbz : Bz ≤ wr.heap.size) :
    ToldE Bz w ts ns (.slice (some ⟨g, 0, none⟩) n cg) (W.setCell ⟨g, j * 5 + 4, none⟩ (.slice A3 l.length c3)) (j + 1) (ns2.set j ⟨(ns2.getD j ED.zero).id, (ns2.getD j ED.zero).lb, (ns2.getD j ED.zero).f, (ns2.getD j ED.zero).t, A3, l, c3⟩) := by
  have hgl := h.own.lt g rfl
  have hjn : j < ns.length := by rw [← h.len]; exact hj
  have hnl : n = ns.length := by
    rcases h.own.2 with ⟨e, _⟩ | ⟨_, _, _, e, _⟩
    · cases e
    · exact (Value.slice.inj e).2.1
  subst hnl
  have hca := h.con_at hjn
  have hkk : ∀ k, k ≠ g → (W.setCell ⟨g, j * 5 + 4, none⟩ (.slice A3 l.length c3)).heap[k]? = W.heap[k]? := fun k e => heap_setCell_other _ ⟨g, j * 5 + 4, none⟩ _ _ e
  have hbs : Below w.heap.size w (W.setCell ⟨g, j * 5 + 4, none⟩ (.slice A3 l.length c3)) := below_set (below_then h.below hb) (p := ⟨g, j * 5 + 4, none⟩) hgl.1 _
  refine ⟨by rw [List.length_set]; exact h.len, ?_, ?_, ?_, ?_, ?_, ?_, hbs⟩
  · have hy : (⟨(ns2.getD j ED.zero).id, (ns2.getD j ED.zero).lb, (ns2.getD j ED.zero).f, (ns2.getD j ED.zero).t, A3, l, c3⟩ : ED).con = toldE ts (ns.getD j ED.zero) := by
      simp only [ED.con, Prod.mk.injEq] at hca
      obtain ⟨e0, e1, e2, e3, e4⟩ := hca
      simp only [ED.con, toldE, ED.key, hl]
      rw [e0, e1, e2, e3, e4]
    rw [List.map_set, hy, h.done]
    have hlt : ((ns.take j).map (toldE ts)).length = j := by rw [List.length_map, List.length_take]; omega
    rw [List.set_append, if_neg (by omega), hlt, Nat.sub_self, drop_cons ns ED.zero j hjn, List.map_cons, List.set_cons_zero, take_getD ns ED.zero j hjn, List.map_append, List.append_assoc]
    rfl
  · rw [flat_set cellsED 5 cellsED_len 4 (.slice A3 l.length c3) _ ns2 j (by decide) (fun x hx => by
      have e : ns2.getD j ED.zero = x := by rw [List.getD_eq_getElem?_getD, hx]; rfl
      rw [e]
      rfl)]
    exact ((own_below h.own hb).stored (j * 5 + 4) _).1
  · intro x hx
    rcases List.mem_or_eq_of_mem_set hx with hx | rfl
    · have hg := (h.good x hx).below hb
      exact ⟨hg.1, hg.2.1, hg.2.2.keep (fun ad e hne => hkk _ (fun e2 => h.off x hx ad e hne (by rw [e2]; rfl))) (fun q hq => ⟨hg.2.2.txt q hq, hg.2.2.num q hq, (h.path x hx q hq).below hbs⟩)⟩
    · exact ⟨(h.good _ (getD_in ns2 ED.zero j hj)).1, (h.good _ (getD_in ns2 ED.zero j hj)).2.1, hr.keep (fun ad e hne => hkk _ (fun e2 => by have := hf ad e; omega)) (fun q hq => ⟨hr.txt q hq, hr.num q hq, (h.path _ (getD_in ns2 ED.zero j hj) q (toldL_mem (ps := (typeOf ts (ns2.getD j ED.zero).key).ps) (by rw [← hl]; exact hq))).below hbs⟩)⟩
  · intro x hx ad e hne
    rcases List.mem_or_eq_of_mem_set hx with hx | rfl
    · exact h.off x hx ad e hne
    · intro e2
      have e3 : g = ad.block := Option.some.inj e2
      have := hf ad e
      omega
  · intro x hx ad e hne
    rcases List.mem_or_eq_of_mem_set hx with hx | rfl
    · exact h.zone x hx ad e hne
    · exact .inr (Nat.le_trans hbz (hf ad e))
  · intro x hx q hq
    rcases List.mem_or_eq_of_mem_set hx with hx | rfl
    · exact h.path x hx q hq
    · exact h.path _ (getD_in ns2 ED.zero j hj) q (toldL_mem (ps := (typeOf ts (ns2.getD j ED.zero).key).ps) (by rw [← hl]; exact hq))
end Go.Proofs.YtffifhinhemkdaaDoor
