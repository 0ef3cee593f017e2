/- The printer's expr: any expression that can be read, so deep. The printer's lit. The printer's expr: words for its walk. The printer's expr, where something is wrong. -/
import Derived.Test.YtkchpgjjkckfbaaDoorPrL
import Derived.Test.YtkchpgjjkckfbaaDoorPrH
import Derived.Lib.ItoaLen
import Derived.ScopeJumps
set_option linter.unusedVariables false
set_option linter.unusedSimpArgs false
namespace Go.Proofs.YtkchpgjjkckfbaaDoor
open Go.RowKit

/-- The writer, on its way: what was told so far, whether something is wrong. -/
def WS (w0 : World) (b : Nat) (T : List UInt8) (fl : Bool) (W : World) : Prop :=
  ∃ bs, IsW w0.heap.size b bs fl W ∧ bs.length ≤ 140737488355328 ∧ (fl = false → CutT T bs) ∧ Below w0.heap.size w0 W
theorem WS.base {w0 : World} {b : Nat} {T : List UInt8} {fl : Bool} {W : World} (h : WS w0 b T fl W) : Below w0.heap.size w0 W := by obtain ⟨_, _, _, _, hb⟩ := h; exact hb
theorem WS.alloc {w0 : World} {b : Nat} {T : List UInt8} {fl : Bool} {W : World} (h : WS w0 b T fl W) (o : Obj) : WS w0 b T fl (W.alloc o) := by
  obtain ⟨bs, hi, hl, hc, hb⟩ := h
  exact ⟨bs, hi.alloc o, hl, hc, below_more hb o⟩
theorem WS.below {w0 : World} {b : Nat} {T : List UInt8} {fl : Bool} {W W' : World} (h : WS w0 b T fl W) (hb : Below W.heap.size W W') : WS w0 b T fl W' := by
  obtain ⟨bs, hi, hl, hc, hb0⟩ := h
  exact ⟨bs, hi.below hb, hl, hc, below_then hb0 hb⟩
theorem WS.cell {w0 : World} {b : Nat} {T : List UInt8} {fl : Bool} {W : World} (h : WS w0 b T fl W) : W.cell? ⟨b, 2, none⟩ = some (.bool fl) := by obtain ⟨_, hi, _⟩ := h; exact hi.cell2
theorem WS.free {w0 : World} {b : Nat} {T : List UInt8} {fl : Bool} {W : World} (h : WS w0 b T fl W) (j : Nat) : W.frozen? ⟨b, j, none⟩ = false := by obtain ⟨_, hi, _⟩ := h; exact hi.frozen j
theorem WS.size {w0 : World} {b : Nat} {T : List UInt8} {fl : Bool} {W : World} (h : WS w0 b T fl W) : w0.heap.size ≤ b ∧ b < W.heap.size := by obtain ⟨_, hi, _⟩ := h; exact ⟨hi.ge, hi.lt⟩
theorem WS.bad {w0 : World} {b : Nat} {T : List UInt8} {fl : Bool} {W : World} (h : WS w0 b T fl W) (T' : List UInt8) : WS w0 b T' true (W.setCell ⟨b, 2, none⟩ (.bool true)) := by
  obtain ⟨bs, hi, hl, hc, hb⟩ := h
  exact ⟨bs, hi.flag true, hl, fun e => (by cases e), hb.setCell (p := ⟨b, 2, none⟩) hi.ge _⟩
theorem WS.any {w0 : World} {b : Nat} {T : List UInt8} {W : World} (h : WS w0 b T true W) (T' : List UInt8) : WS w0 b T' true W := by
  obtain ⟨bs, hi, hl, hc, hb⟩ := h
  exact ⟨bs, hi, hl, fun e => (by cases e), hb⟩
theorem WS.holds {w0 : World} {b : Nat} {T : List UInt8} {fl : Bool} {W : World} (h : WS w0 b T fl W) : ∃ cs, W.heap[b]? = some (.cells cs 52 (0, 0)) := by
  obtain ⟨_, hi, _⟩ := h
  rcases hi with hi | hi <;> (obtain ⟨_, v, hb, _⟩ := hi; exact ⟨_, hb⟩)
theorem WS.say {w0 : World} {b : Nat} {T : List UInt8} {fl : Bool} {W : World} (h : WS w0 b T fl W) (a : ByteArray) (ha : a.size ≤ 140737488351232) :
    Calls Tryd.prog 28 #[.pointer (some ⟨b, 0, none⟩), .slice (some ⟨W.heap.size, 0, none⟩) 1 1] (W.alloc (.cells #[.string a] 9)) fun e w' => e = .returned (.tuple #[]) ∧ (WS w0 b (T ++ a.data.toList) fl w' ∧ KeptB b W w') := by
  obtain ⟨bs, hi, hl, hc, hb⟩ := h
  refine (say_1 _ b bs fl a W hi hb.size hl ha).mono ?_
  rintro e w' ⟨rfl, h1, h2, h3⟩
  refine ⟨rfl, ⟨_, h1, sayL_small (m := 0) _ _ hl (fun t ht => by simp at ht; subst ht; exact ha), fun e => ?_, hb.trans h2⟩, h3⟩
  have := CutT.says [a] _ _ (hc e)
  simpa using this
theorem WS.say3 {w0 : World} {b : Nat} {T : List UInt8} {fl : Bool} {W : World} (h : WS w0 b T fl W) (a s u : ByteArray) (ha : a.size ≤ 140737488351232) (hs : s.size ≤ 140737488351232) (hu : u.size ≤ 140737488351232) :
    Calls Tryd.prog 28 #[.pointer (some ⟨b, 0, none⟩), .slice (some ⟨W.heap.size, 0, none⟩) 3 3] (W.alloc (.cells #[.string a, .string s, .string u] 9)) fun e w' => e = .returned (.tuple #[]) ∧ (WS w0 b (T ++ (a.data.toList ++ (s.data.toList ++ u.data.toList))) fl w' ∧ KeptB b W w') := by
  obtain ⟨bs, hi, hl, hc, hb⟩ := h
  refine (say_3 _ b bs fl a s u W hi hb.size hl ha hs hu).mono ?_
  rintro e w' ⟨rfl, h1, h2, h3⟩
  refine ⟨rfl, ⟨_, h1, sayL_small (m := 0) _ _ hl (fun t ht => by simp at ht; rcases ht with rfl | rfl | rfl <;> assumption), fun e => ?_, hb.trans h2⟩, h3⟩
  have := CutT.says [a, s, u] _ _ (hc e)
  simpa using this
theorem WS.want {w0 : World} {b : Nat} {T : List UInt8} {fl : Bool} {W : World} (h : WS w0 b T fl W) (q : Bool) :
    Calls Tryd.prog 18 #[.pointer (some ⟨b, 0, none⟩), .bool q] W fun e w' => e = .returned (.tuple #[]) ∧ (WS w0 b T (fl || !q) w' ∧ KeptB b W w') := by
  obtain ⟨bs, hi, hl, hc, hb⟩ := h
  refine (w_want _ b bs fl q W hi).mono ?_
  rintro e w' ⟨rfl, h1, h2, h3⟩
  exact ⟨rfl, ⟨bs, h1, hl, fun e => hc (by revert e; cases fl <;> simp), hb.trans h2⟩, h3⟩
/-- A box stands still while the writer writes. -/
def BX (W : World) (x : Nat) (cs : Array Value) (T : TypeId) : Prop := W.heap[x]? = some (.cells cs T (0, 0))
theorem BX.cells {W : World} {x : Nat} {cs : Array Value} {T : TypeId} (h : BX W x cs T) (j : Nat) : W.cell? ⟨x, j, none⟩ = cs[j]? := Lib.cell_of_heap h j
theorem BX.keep {w0 : World} {b : Nat} {S : List UInt8} {fl : Bool} {W W' : World} {x : Nat} {cs : Array Value} {T : TypeId} (h : BX W x cs T) (hw : WS w0 b S fl W) (hk : KeptB b W W') (h1 : T ≠ 52) (h2 : T ≠ 5) : BX W' x cs T := by
  refine hk x _ h (fun e => ?_) (fun c fz e => ?_)
  · obtain rfl : x = b := Option.some.inj e
    obtain ⟨cs', hb⟩ := hw.holds
    rw [show W.heap[x]? = _ from h] at hb
    simp at hb
    exact h1 hb.2
  · simp at e
    exact h2 e.2.1
theorem BX.below {W W' : World} {x : Nat} {cs : Array Value} {T : TypeId} (h : BX W x cs T) (hb : Below W.heap.size W W') : BX W' x cs T := (hb.block x (Array.getElem?_eq_some_iff.1 h).1).trans h
theorem BX.alloc {W : World} {x : Nat} {cs : Array Value} {T : TypeId} (h : BX W x cs T) (o : Obj) : BX (W.alloc o) x cs T := h.below (below_more (Below.refl _ _) o)
theorem BX.new (W : World) (cs : Array Value) (T : TypeId) : BX (W.alloc (.cells cs T)) W.heap.size cs T := heap_alloc_new W _
def upL (l : List UInt8) : List UInt8 := l.map fun x => x - 32
theorem sub_up (b : UInt8) (h : 97 ≤ b.toNat ∧ b.toNat ≤ 122) : ((b - 32).toNat : Int) = (b.toNat : Int) - 32 := by
  rw [UInt8.toNat_sub_of_le]
  · show ((b.toNat - 32 : Nat) : Int) = _
    omega
  · rw [UInt8.le_iff_toNat_le]
    show 32 ≤ b.toNat
    omega
set_option maxRecDepth 100000 in
set_option maxHeartbeats 1600000 in
/-- A word in small letters, in great ones. -/
theorem lit_word (w0 : World) (b : Nat) (T : List UInt8) (fl : Bool) (kk : Int) (bb : Bool) (nn : Int) (s : ByteArray) (pA : Option Addr) (pm pc : Nat) (l : List UInt8) (w : World) (hw : WS w0 b T fl w) (hk : kk = 0 ∨ kk = 1) (hl : ∀ x ∈ l, 97 ≤ x.toNat ∧ x.toNat ≤ 122) (hlen : l.length ≤ 100)
    (hS : ∀ W, Below w.heap.size w W → Calls Tryd.prog 62 #[.agg #[.int .i64 kk, .bool bb, .int .i64 nn, .string s, .slice pA pm pc]] W fun e w' => e = .returned (.string ⟨l.toArray⟩) ∧ Below W.heap.size W w') :
    Calls Tryd.prog 38 #[.pointer (some ⟨b, 0, none⟩), .agg #[.int .i64 kk, .bool bb, .int .i64 nn, .string s, .slice pA pm pc]] w fun e w' => e = .returned (.tuple #[]) ∧ (WS w0 b (T ++ upL l) fl w' ∧ KeptB b w w') := by
  obtain ⟨n, hn⟩ : ∃ n, n = l.length := ⟨_, rfl⟩
  have HL := Aside0.mk (And.intro hl (And.intro hlen hn))
  have HW := Aside0.mk hw
  clear hw hl hlen
  rcases hk with rfl | rfl
  all_goals
    go_enter Tryd.func38, Tryd.ntmps38
    go_upto_region 3 with (go_at_call 62; refine (hS _ (below_more (Below.refl _ _) _)).mono ?_; rintro e w1 ⟨rfl, hb1⟩; have hz1 : w.heap.size < w1.heap.size := (by have := hb1.size; (try simp at this); omega); have hbx := (fun i => hb1.cell (p := ⟨w.heap.size, i, none⟩) (by simp)); have HB1 := Aside0.mk (below_then (below_more (Below.refl w.heap.size w) _) hb1); clear hb1)
    obtain ⟨cc, C0, hcv0, hn0, hC0⟩ := conv_row w1 ⟨l.toArray⟩
    have hsz : (⟨l.toArray⟩ : ByteArray).size = n := by rw [hn]; simp [ByteArray.size]
    rw [hsz] at hcv0 hn0 hC0
    have hC1 : ∀ j, j < n → C0[j]? = some (.int .u8 ((l.getD j 0).toNat : Int)) := fun j hj => by simpa using hC0 j hj
    have HC1 := Aside0.mk hC1
    have HSZ := Aside0.mk hsz
    have hn9 : n ≤ 100 := by have := HL.out.2; omega
    clear hC0 hC1 hsz hn hbx hS
    go_wp2
    obtain ⟨W2, hW2⟩ : ∃ W2, W2 = (w1.alloc (.cells C0 5 (C0.size, C0.size + 1))).drew := ⟨_, rfl⟩
    rw [← hW2]
    obtain ⟨g, hg⟩ : ∃ g, g = w1.heap.size := ⟨_, rfl⟩
    have hR1 : RowZ W2 g C0 := by rw [hW2, hg]; exact heap_alloc_new w1 _
    have HB2 : Below w1.heap.size w1 W2 := by rw [hW2]; have h := (Below.refl w1.heap.size w1).alloc (Nat.le_refl _) (.cells C0 5 (C0.size, C0.size + 1)); exact ⟨h.os, h.tape, h.output, h.size, h.block⟩
    have HG : w1.heap.size ≤ g := by omega
    rw [← hg]
    have HGG := Aside0.mk HG
    clear hW2 hcv0 hg HG
    go_loopg [6, 21] (n + 1) (fun gg s6 s21 wr => ∃ (k : Nat) (C : Array Value), k ≤ n ∧ n < gg + k ∧ s21 = .int .i64 k ∧ RowZ wr g C ∧ n ≤ C.size ∧ Aside0 (∀ j, j < n → C[j]? = some (.int .u8 (((if j < k then l.getD j 0 - 32 else l.getD j 0)).toNat : Int))) ∧ Below w1.heap.size w1 wr)
    case atStart => exact ⟨0, C0, by omega, by omega, rfl, hR1, hn0, ⟨fun j hj => by rw [if_neg (by omega)]; exact HC1.out j hj⟩, HB2⟩
    case round =>
      obtain ⟨k, C, hk, hg, rfl, hR, hnC, HC, HB⟩ := hrel
      clear hR1 HB2 hn0
      by_cases hlt : k < n
      · have hlti : (k : Int) < (n : Int) := by omega
        have hk0 : (0 : Int) ≤ (k : Int) := by omega
        have hck := HC.out k hlt
        rw [if_neg (by omega)] at hck
        have hcell : wr.cell? ⟨g, k, none⟩ = some (.int .u8 ((l.getD k 0).toNat : Int)) := (hR.cell k).trans hck
        have hfz := hR.free k (by omega)
        have hup : 97 ≤ (l.getD k 0).toNat ∧ (l.getD k 0).toNat ≤ 122 := HL.out.1 _ (by
          have hkl : k < l.length := by have := HL.out.2; omega
          rw [List.getD_eq_getElem?_getD, List.getElem?_eq_getElem hkl]; exact List.getElem_mem _)
        have hby : (l.getD k 0).toNat < 256 := (l.getD k 0).toNat_lt
        have hbit := up_bits _ hup.1 hup.2
        have hnew : RowZ (wr.setCell ⟨g, k, none⟩ (.int .u8 (((l.getD k 0).toNat : Int) - 32))) g (C.setIfInBounds k (.int .u8 (((l.getD k 0).toNat : Int) - 32))) := hR.put k _
        have hcs : ∀ j, j < n → (C.setIfInBounds k (.int .u8 (((l.getD k 0).toNat : Int) - 32)))[j]? = some (.int .u8 (((if j < k + 1 then l.getD j 0 - 32 else l.getD j 0)).toNat : Int)) := by
          intro j hj
          have h := HC.out j hj
          rw [Array.getElem?_setIfInBounds]
          by_cases hjk : k = j
          · subst hjk
            rw [if_pos rfl, if_pos (by omega), if_pos (by omega), sub_up _ hup]
          · rw [if_neg hjk, h]
            by_cases h1 : j < k
            · rw [if_pos h1, if_pos (by omega)]
            · rw [if_neg h1, if_neg (by omega)]
        have HCS := Aside0.mk hcs
        have HNEW := Aside0.mk hnew
        have hu0 : (97 : Int) ≤ ((l.getD k 0).toNat : Int) := by omega
        have hu1 : ((l.getD k 0).toNat : Int) ≤ 122 := by omega
        clear hcs hnew hck hup
        generalize (l.getD k 0).toNat = y at hcell hbit hu0 hu1 hby HCS HNEW
        go_wp2
        go_roundg (gk - 1)
        case measure => omega
        case rel => exact ⟨k + 1, _, by omega, by omega, by go_num, HNEW.out, by simpa using hnC, HCS, below_set HB HGG.out _⟩
      · obtain rfl : k = n := by omega
        have hL : (upL l).length = k := by rw [upL, List.length_map]; exact HL.out.2.2.symm
        have hcv := row_text hR (upL l) cc (fun j hj => by
          rw [hL] at hj
          have hjl : j < l.length := by have := HL.out.2; omega
          rw [HC.out j hj, if_pos hj]
          simp [upL, List.getD, hjl])
        rw [hL] at hcv
        have hWS : WS w0 b T fl wr := (HW.out.below HB1.out).below HB
        have hsay := hWS.say ⟨(upL l).toArray⟩ (by have : (⟨(upL l).toArray⟩ : ByteArray).size = (upL l).length := by simp [ByteArray.size]
                                                   rw [this, hL]; omega)
        have HKK : KeptB b w wr := kept_below (below_then HB1.out HB)
        obtain ⟨u, hu⟩ : ∃ u, u = upL l := ⟨_, rfl⟩
        rw [← hu] at hcv hsay
        have HU := Aside0.mk hu
        clear hu
        go_wp2_with (go_at_call 28; refine hsay.mono ?_; rintro e w5 ⟨rfl, h5, hk5⟩)
        go_end0
        exact ⟨rfl, by rw [← HU.out]; exact h5, HKK.trans hk5⟩
set_option maxRecDepth 100000 in
set_option maxHeartbeats 1600000 in
/-- A number, a text: as Show has it. -/
theorem lit_other (w0 : World) (b : Nat) (T : List UInt8) (fl : Bool) (kk : Int) (bb : Bool) (nn : Int) (s : ByteArray) (pA : Option Addr) (pm pc : Nat) (l : List UInt8) (w : World) (hw : WS w0 b T fl w) (e0 : (kk == 0) = false) (e1 : (kk == 1) = false) (hlen : l.length ≤ 140737488351232)
    (hS : ∀ W, Below w.heap.size w W → Calls Tryd.prog 62 #[.agg #[.int .i64 kk, .bool bb, .int .i64 nn, .string s, .slice pA pm pc]] W fun e w' => e = .returned (.string ⟨l.toArray⟩) ∧ Below W.heap.size W w') :
    Calls Tryd.prog 38 #[.pointer (some ⟨b, 0, none⟩), .agg #[.int .i64 kk, .bool bb, .int .i64 nn, .string s, .slice pA pm pc]] w fun e w' => e = .returned (.tuple #[]) ∧ (WS w0 b (T ++ l) fl w' ∧ KeptB b w w') := by
  have HL := Aside0.mk hlen
  have HW := Aside0.mk hw
  clear hw hlen
  go_enter Tryd.func38, Tryd.ntmps38
  go_upto_region 2 with (go_at_call 62; refine (hS _ (below_more (Below.refl _ _) _)).mono ?_; rintro e w1 ⟨rfl, hb1⟩; have hz1 : w.heap.size < w1.heap.size := (by have := hb1.size; (try simp at this); omega); have hbx := (fun i => hb1.cell (p := ⟨w.heap.size, i, none⟩) (by simp)); have HB1 := Aside0.mk (below_then (below_more (Below.refl w.heap.size w) _) hb1); clear hb1)
  have hWS : WS w0 b T fl w1 := HW.out.below HB1.out
  have hsay := hWS.say ⟨l.toArray⟩ (by have : (⟨l.toArray⟩ : ByteArray).size = l.length := by simp [ByteArray.size]
                                       rw [this]; exact HL.out)
  have HKK : KeptB b w w1 := kept_below HB1.out
  go_wp2_with (go_at_call 28; refine hsay.mono ?_; rintro e w5 ⟨rfl, h5, hk5⟩)
  go_end0
  exact ⟨rfl, by simpa using h5, HKK.trans hk5⟩
theorem upL_null : upL [110, 117, 108, 108] = [78, 85, 76, 76] := by decide
theorem upL_true : upL [116, 114, 117, 101] = [84, 82, 85, 69] := by decide
theorem upL_false : upL [102, 97, 108, 115, 101] = [70, 65, 76, 83, 69] := by decide
theorem WS.lit {w0 : World} {b : Nat} {T : List UInt8} {fl : Bool} {w : World} (hw : WS w0 b T fl w) (v : VX) (hp : ReadsI w0 v.A v.p) (hn : -9223372036854775808 ≤ v.n ∧ v.n ≤ 9223372036854775807) (ht : Tabs w0) (hr : rightB v.k v.b v.n v.s v.p = true) (h3 : v.k ≤ 3) :
    Calls Tryd.prog 38 #[.pointer (some ⟨b, 0, none⟩), .agg #[.int .i64 v.k, .bool v.b, .int .i64 v.n, .string v.s, .slice v.A v.p.length v.c]] w fun e w' => e = .returned (.tuple #[]) ∧ (WS w0 b (T ++ litL v) fl w' ∧ KeptB b w w') := by
  have hS : ∀ W, Below w.heap.size w W → Calls Tryd.prog 62 #[.agg #[.int .i64 v.k, .bool v.b, .int .i64 v.n, .string v.s, .slice v.A v.p.length v.c]] W fun e w' => e = .returned (.string ⟨(showQ v.k v.b v.n v.s).toArray⟩) ∧ Below W.heap.size W w' :=
    fun W hW => show_q v.k v.n v.b v.s v.A v.p v.c W (hp.below (below_then hw.base hW)) hn (ht.below (below_then hw.base hW)) hr h3
  have hc := right_small hr h3
  obtain ⟨k, bb, nn, s, A, p, c⟩ := v
  simp only at hS hc hr hn ⊢
  rcases hc with rfl | rfl | rfl | rfl
  · have := lit_word w0 b T fl 0 bb nn s A p.length c _ w hw (.inl rfl) (show ∀ x ∈ ([110, 117, 108, 108] : List UInt8), 97 ≤ x.toNat ∧ x.toNat ≤ 122 by decide) (show ([110, 117, 108, 108] : List UInt8).length ≤ 100 by decide) hS
    rw [show litL ⟨0, bb, nn, s, A, p, c⟩ = upL (showQ 0 bb nn s) from rfl]
    exact this
  · cases bb
    · have := lit_word w0 b T fl 1 false nn s A p.length c _ w hw (.inr rfl) (show ∀ x ∈ ([102, 97, 108, 115, 101] : List UInt8), 97 ≤ x.toNat ∧ x.toNat ≤ 122 by decide) (show ([102, 97, 108, 115, 101] : List UInt8).length ≤ 100 by decide) hS
      rw [show litL ⟨1, false, nn, s, A, p, c⟩ = upL (showQ 1 false nn s) from rfl]
      exact this
    · have := lit_word w0 b T fl 1 true nn s A p.length c _ w hw (.inr rfl) (show ∀ x ∈ ([116, 114, 117, 101] : List UInt8), 97 ≤ x.toNat ∧ x.toNat ≤ 122 by decide) (show ([116, 114, 117, 101] : List UInt8).length ≤ 100 by decide) hS
      rw [show litL ⟨1, true, nn, s, A, p, c⟩ = upL (showQ 1 true nn s) from rfl]
      exact this
  · exact lit_other w0 b T fl 2 bb nn s A p.length c _ w hw rfl rfl (by have := Lib.itoa_length_le nn hn.1 hn.2; show (Lib.itoa nn).length ≤ _; omega) hS
  · exact lit_other w0 b T fl 3 bb nn s A p.length c _ w hw rfl rfl (by
      have h2 := (right_text hr rfl).1
      have h4 := qtext_length s.data.toList
      have h5 : s.data.toList.length = s.size := rfl
      show (quoR s.data.toList).length ≤ _
      simp only [quoR, List.length_cons, List.length_append, List.length_nil]
      omega) hS
theorem plain_any (op : Int) (A : Option Addr) (ks : List XD) (c : Nat) (nm pr : ByteArray) (v : VX) (m : Nat) (w : World) (hp : ReadsI w v.A v.p) (hnm : nm.size ≤ 140737488351232) (hpr : pr.size ≤ 140737488351232) (hk : KeysLie w) :
    Calls Tryd.prog 37 #[.agg #[.int .i64 op, .slice A ks.length c, .string nm, .string pr, .int .i64 v.k, .bool v.b, .int .i64 v.n, .string v.s, .slice v.A v.p.length v.c], .int .i64 m] w fun e w' => e = .returned (.bool (decide (ks.length = m) && plainB op nm pr v)) ∧ Below w.heap.size w w' := by
  have hR : ∀ W, Below w.heap.size w W → Calls Tryd.prog 61 #[.agg #[.int .i64 v.k, .bool v.b, .int .i64 v.n, .string v.s, .slice v.A v.p.length v.c]] W fun e w' => e = .returned (.bool (rightB v.k v.b v.n v.s v.p)) ∧ Below W.heap.size W w' := fun W hW => right_any v.k v.n v.b v.s v.A v.p v.c W (hp.below hW)
  have hN1 : ∀ W, Below w.heap.size w W → Calls Tryd.prog 48 #[.string nm] W fun e w' => e = .returned (.bool (namedB nm)) ∧ Below W.heap.size W w' := fun W hW => named_any nm W (by omega) (hk.below hW)
  have hN2 : ∀ W, Below w.heap.size w W → Calls Tryd.prog 48 #[.string pr] W fun e w' => e = .returned (.bool (namedB pr)) ∧ Below W.heap.size W w' := fun W hW => named_any pr W (by omega) (hk.below hW)
  by_cases hm : ks.length = m
  · rw [decide_eq_true hm, Bool.true_and]
    have hmi : (m : Int) = (ks.length : Int) := by omega
    by_cases h1 : op = 1
    · subst h1
      have h := plain_1 A ks.length c m nm pr v.k v.b v.n v.s v.A v.p v.c w _ true true hR hmi _ rfl _ rfl _ rfl _ rfl _ rfl _ rfl
      rw [show plainB 1 nm pr v = _ from (by unfold plainB; rw [if_pos rfl])]
      simpa only [Bool.and_assoc] using h
    by_cases h2 : op = 2
    · subst h2
      have h := plain_2 A ks.length c m nm pr v.k v.b v.n v.s v.A v.p v.c w _ (namedB nm) true hR hN1 hmi _ rfl _ rfl
      rw [show plainB 2 nm pr v = _ from (by unfold plainB noneB; rw [if_neg (by decide), if_pos rfl])]
      simpa only [Bool.and_assoc] using h
    by_cases h3 : op = 3
    · subst h3
      have h := plain_3 A ks.length c m nm pr v.k v.b v.n v.s v.A v.p v.c w _ (namedB nm) (namedB pr) hR hN1 hN2 hmi _ rfl
      rw [show plainB 3 nm pr v = _ from (by unfold plainB noneB; rw [if_neg (by decide), if_neg (by decide), if_pos rfl])]
      simpa only [Bool.and_assoc] using h
    have h := plain_x op A ks.length c m nm pr v.k v.b v.n v.s v.A v.p v.c w _ true true hR hmi (beq_eq_false_iff_ne.2 h1) (beq_eq_false_iff_ne.2 h2) (beq_eq_false_iff_ne.2 h3) _ rfl _ rfl _ rfl
    rw [show plainB op nm pr v = _ from (by unfold plainB noneB; rw [if_neg h1, if_neg h2, if_neg h3])]
    simpa only [Bool.and_assoc] using h
  · rw [decide_eq_false hm, Bool.false_and]
    have hm2 : ¬ (ks.length : Int) = (m : Int) := by omega
    exact plain_len op A ks.length c m nm pr v.k v.b v.n v.s v.A v.p v.c w _ true true hR (by rw [bne_iff_ne]; exact hm2) hm2 _ rfl
/-- What there is to know of a shape. -/
theorem shp_facts {op : Int} {s : Shp} (h : shpD op = some s) : s.lvl ≠ 0 ∧ s.asks.length ≤ 2 ∧ s.ahead.length ≤ 100 ∧ s.sign.length ≤ 100 ∧ s.behind.length ≤ 100 ∧ (deepB op = (decide (op = 17) || decide (op = 18) || (decide (s.lvl = 8) && !s.ahead.isEmpty))) := by
  by_cases h1 : op = 1
  · subst h1
    obtain rfl : (⟨8, [], [], [], []⟩ : Shp) = s := Option.some.inj h
    decide
  by_cases h2 : op = 2
  · subst h2
    obtain rfl : (⟨8, [], [], [], []⟩ : Shp) = s := Option.some.inj h
    decide
  by_cases h3 : op = 3
  · subst h3
    obtain rfl : (⟨8, [], [], [], []⟩ : Shp) = s := Option.some.inj h
    decide
  by_cases h4 : op = 4
  · subst h4
    obtain rfl : (⟨1, [1, 2], [], [32, 79, 82, 32], []⟩ : Shp) = s := Option.some.inj h
    decide
  by_cases h5 : op = 5
  · subst h5
    obtain rfl : (⟨2, [2, 3], [], [32, 65, 78, 68, 32], []⟩ : Shp) = s := Option.some.inj h
    decide
  by_cases h6 : op = 6
  · subst h6
    obtain rfl : (⟨4, [5, 5], [], [32, 61, 32], []⟩ : Shp) = s := Option.some.inj h
    decide
  by_cases h7 : op = 7
  · subst h7
    obtain rfl : (⟨4, [5, 5], [], [32, 60, 62, 32], []⟩ : Shp) = s := Option.some.inj h
    decide
  by_cases h8 : op = 8
  · subst h8
    obtain rfl : (⟨4, [5, 5], [], [32, 60, 32], []⟩ : Shp) = s := Option.some.inj h
    decide
  by_cases h9 : op = 9
  · subst h9
    obtain rfl : (⟨4, [5, 5], [], [32, 60, 61, 32], []⟩ : Shp) = s := Option.some.inj h
    decide
  by_cases h10 : op = 10
  · subst h10
    obtain rfl : (⟨4, [5, 5], [], [32, 62, 32], []⟩ : Shp) = s := Option.some.inj h
    decide
  by_cases h11 : op = 11
  · subst h11
    obtain rfl : (⟨4, [5, 5], [], [32, 62, 61, 32], []⟩ : Shp) = s := Option.some.inj h
    decide
  by_cases h12 : op = 12
  · subst h12
    obtain rfl : (⟨5, [5, 6], [], [32, 43, 32], []⟩ : Shp) = s := Option.some.inj h
    decide
  by_cases h13 : op = 13
  · subst h13
    obtain rfl : (⟨5, [5, 6], [], [32, 45, 32], []⟩ : Shp) = s := Option.some.inj h
    decide
  by_cases h14 : op = 14
  · subst h14
    obtain rfl : (⟨6, [6, 7], [], [32, 42, 32], []⟩ : Shp) = s := Option.some.inj h
    decide
  by_cases h15 : op = 15
  · subst h15
    obtain rfl : (⟨6, [6, 7], [], [32, 47, 32], []⟩ : Shp) = s := Option.some.inj h
    decide
  by_cases h16 : op = 16
  · subst h16
    obtain rfl : (⟨6, [6, 7], [], [32, 37, 32], []⟩ : Shp) = s := Option.some.inj h
    decide
  by_cases h17 : op = 17
  · subst h17
    obtain rfl : (⟨3, [3], [78, 79, 84, 32], [], []⟩ : Shp) = s := Option.some.inj h
    decide
  by_cases h18 : op = 18
  · subst h18
    obtain rfl : (⟨7, [7], [45], [], []⟩ : Shp) = s := Option.some.inj h
    decide
  by_cases h19 : op = 19
  · subst h19
    obtain rfl : (⟨4, [5], [], [], [32, 73, 83, 32, 78, 85, 76, 76]⟩ : Shp) = s := Option.some.inj h
    decide
  by_cases h20 : op = 20
  · subst h20
    obtain rfl : (⟨4, [5], [], [], [32, 73, 83, 32, 78, 79, 84, 32, 78, 85, 76, 76]⟩ : Shp) = s := Option.some.inj h
    decide
  by_cases h21 : op = 21
  · subst h21
    obtain rfl : (⟨8, [1], [76, 69, 78, 71, 84, 72, 40], [], [41]⟩ : Shp) = s := Option.some.inj h
    decide
  by_cases h22 : op = 22
  · subst h22
    obtain rfl : (⟨8, [1], [67, 79, 85, 78, 84, 40], [], [41]⟩ : Shp) = s := Option.some.inj h
    decide
  by_cases h23 : op = 23
  · subst h23
    obtain rfl : (⟨8, [1], [83, 85, 77, 40], [], [41]⟩ : Shp) = s := Option.some.inj h
    decide
  by_cases h24 : op = 24
  · subst h24
    obtain rfl : (⟨8, [1], [77, 73, 78, 40], [], [41]⟩ : Shp) = s := Option.some.inj h
    decide
  by_cases h25 : op = 25
  · subst h25
    obtain rfl : (⟨8, [1], [77, 65, 88, 40], [], [41]⟩ : Shp) = s := Option.some.inj h
    decide
  by_cases h26 : op = 26
  · subst h26
    obtain rfl : (⟨8, [], [67, 79, 85, 78, 84, 40, 42], [], [41]⟩ : Shp) = s := Option.some.inj h
    decide
  unfold shpD at h
  rw [if_neg h1, if_neg h2, if_neg h3, if_neg h4, if_neg h5, if_neg h6, if_neg h7, if_neg h8, if_neg h9, if_neg h10, if_neg h11, if_neg h12, if_neg h13, if_neg h14, if_neg h15, if_neg h16, if_neg h17, if_neg h18, if_neg h19, if_neg h20, if_neg h21, if_neg h22, if_neg h23, if_neg h24, if_neg h25, if_neg h26] at h
  cases h
/-- What an expression's telling leaves. -/
def ExprOk (w0 : World) (b : Nat) (x : XD) : Prop := ∀ (d : Nat) (T : List UInt8) (fl : Bool) (w : World), WS w0 b T fl w → d ≤ 51 → (fl = false → d ≤ 50) →
  Calls Tryd.prog 14 #[.pointer (some ⟨b, 0, none⟩), .agg #[.int .i64 x.op, .slice x.A x.ks.length x.c, .string x.nm, .string x.pr, .int .i64 x.v.k, .bool x.v.b, .int .i64 x.v.n, .string x.v.s, .slice x.v.A x.v.p.length x.v.c], .int .i64 d] w
    fun e w' => e = .returned (.tuple #[]) ∧ (WS w0 b (T ++ textX x) (fl || !okX x d) w' ∧ KeptB b w w')
set_option maxRecDepth 100000 in
set_option maxHeartbeats 3200000 in
theorem x_true (w0 : World) (b : Nat) (T TT : List UInt8) (op : Int) (A : Option Addr) (ks : List XD) (c : Nat) (nm pr : ByteArray) (v : VX) (d : Nat) (w : World) (s : Shp) (hsh : ∀ W, Calls Tryd.prog 36 #[.int .i64 op] W (shapeQ s W)) (hw : WS w0 b T true w) :
    Calls Tryd.prog 14 #[.pointer (some ⟨b, 0, none⟩), .agg #[.int .i64 op, .slice A ks.length c, .string nm, .string pr, .int .i64 v.k, .bool v.b, .int .i64 v.n, .string v.s, .slice v.A v.p.length v.c], .int .i64 d] w fun e w' => e = .returned (.tuple #[]) ∧ (WS w0 b TT true w' ∧ KeptB b w w') := by
  have HW := Aside0.mk hw
  clear hw
  go_enter Tryd.func14, Tryd.ntmps14
  go_wp2_with (fail)
  refine wp_scope_jumps 0 (fun a' w' => a' = { tmps := #[.pointer (some ⟨b, 0, none⟩), (a'.tmps.getD 1 undef), (a'.tmps.getD 2 undef), (a'.tmps.getD 3 undef), (a'.tmps.getD 4 undef), (a'.tmps.getD 5 undef), (a'.tmps.getD 6 undef), (a'.tmps.getD 7 undef), (a'.tmps.getD 8 undef), (a'.tmps.getD 9 undef), (a'.tmps.getD 10 undef), (a'.tmps.getD 11 undef), (a'.tmps.getD 12 undef), (a'.tmps.getD 13 undef), (a'.tmps.getD 14 undef), (a'.tmps.getD 15 undef), (a'.tmps.getD 16 undef), (a'.tmps.getD 17 undef), (a'.tmps.getD 18 undef), (a'.tmps.getD 19 undef), (a'.tmps.getD 20 undef), (a'.tmps.getD 21 undef), (a'.tmps.getD 22 undef), (a'.tmps.getD 23 undef), (a'.tmps.getD 24 undef), (a'.tmps.getD 25 undef), (a'.tmps.getD 26 undef), (a'.tmps.getD 27 undef), (a'.tmps.getD 28 undef), (a'.tmps.getD 29 undef), (a'.tmps.getD 30 undef), (a'.tmps.getD 31 undef), (a'.tmps.getD 32 undef), (a'.tmps.getD 33 undef), (a'.tmps.getD 34 undef), (a'.tmps.getD 35 undef), (a'.tmps.getD 36 undef), (a'.tmps.getD 37 undef), (a'.tmps.getD 38 undef), (a'.tmps.getD 39 undef), (a'.tmps.getD 40 undef), (a'.tmps.getD 41 undef), (a'.tmps.getD 42 undef), (a'.tmps.getD 43 undef), (a'.tmps.getD 44 undef), (a'.tmps.getD 45 undef), (a'.tmps.getD 46 undef), (a'.tmps.getD 47 undef), (a'.tmps.getD 48 undef), (a'.tmps.getD 49 undef), (a'.tmps.getD 50 undef), (a'.tmps.getD 51 undef), (a'.tmps.getD 52 undef), (a'.tmps.getD 53 undef), (a'.tmps.getD 54 undef), (a'.tmps.getD 55 undef), (a'.tmps.getD 56 undef), (a'.tmps.getD 57 undef), (a'.tmps.getD 58 undef), (a'.tmps.getD 59 undef), (a'.tmps.getD 60 undef), (a'.tmps.getD 61 undef), (a'.tmps.getD 62 undef), (a'.tmps.getD 63 undef), (a'.tmps.getD 64 undef), (a'.tmps.getD 65 undef), (a'.tmps.getD 66 undef), (a'.tmps.getD 67 undef), (a'.tmps.getD 68 undef), (a'.tmps.getD 69 undef), (a'.tmps.getD 70 undef), (a'.tmps.getD 71 undef), (a'.tmps.getD 72 undef), (a'.tmps.getD 73 undef), (a'.tmps.getD 74 undef), (a'.tmps.getD 75 undef), (a'.tmps.getD 76 undef), (a'.tmps.getD 77 undef), (a'.tmps.getD 78 undef), (a'.tmps.getD 79 undef), (a'.tmps.getD 80 undef), (a'.tmps.getD 81 undef), (a'.tmps.getD 82 undef), (a'.tmps.getD 83 undef), (a'.tmps.getD 84 undef), (a'.tmps.getD 85 undef), (a'.tmps.getD 86 undef), (a'.tmps.getD 87 undef), (a'.tmps.getD 88 undef), (a'.tmps.getD 89 undef), (a'.tmps.getD 90 undef), (a'.tmps.getD 91 undef), (a'.tmps.getD 92 undef), (a'.tmps.getD 93 undef), (a'.tmps.getD 94 undef), (a'.tmps.getD 95 undef), (a'.tmps.getD 96 undef), (a'.tmps.getD 97 undef), (a'.tmps.getD 98 undef), (a'.tmps.getD 99 undef), (a'.tmps.getD 100 undef), (a'.tmps.getD 101 undef), (a'.tmps.getD 102 undef), (a'.tmps.getD 103 undef), (a'.tmps.getD 104 undef), (a'.tmps.getD 105 undef), (a'.tmps.getD 106 undef), (a'.tmps.getD 107 undef), (a'.tmps.getD 108 undef), (a'.tmps.getD 109 undef), (a'.tmps.getD 110 undef), (a'.tmps.getD 111 undef), (a'.tmps.getD 112 undef), (a'.tmps.getD 113 undef), (a'.tmps.getD 114 undef), (a'.tmps.getD 115 undef), (a'.tmps.getD 116 undef), (a'.tmps.getD 117 undef), (a'.tmps.getD 118 undef), (a'.tmps.getD 119 undef), (a'.tmps.getD 120 undef), (a'.tmps.getD 121 undef), (a'.tmps.getD 122 undef), (a'.tmps.getD 123 undef), (a'.tmps.getD 124 undef), (a'.tmps.getD 125 undef), (a'.tmps.getD 126 undef), (a'.tmps.getD 127 undef), (a'.tmps.getD 128 undef), (a'.tmps.getD 129 undef), (a'.tmps.getD 130 undef), (a'.tmps.getD 131 undef), (a'.tmps.getD 132 undef)], defers := [] } ∧ ∃ T' fl', WS w0 b T' fl' w' ∧ KeptB b w w') (fun _ _ => 0) rfl ?first ?pass
  case pass =>
    rintro a' w' ⟨ha, T', fl', hw', hk'⟩
    obtain ⟨U, hU⟩ : ∃ U : Nat → Value, U = fun i => a'.tmps.getD i undef := ⟨_, rfl⟩
    have ha2 : a' = { tmps := #[.pointer (some ⟨b, 0, none⟩), U 1, U 2, U 3, U 4, U 5, U 6, U 7, U 8, U 9, U 10, U 11, U 12, U 13, U 14, U 15, U 16, U 17, U 18, U 19, U 20, U 21, U 22, U 23, U 24, U 25, U 26, U 27, U 28, U 29, U 30, U 31, U 32, U 33, U 34, U 35, U 36, U 37, U 38, U 39, U 40, U 41, U 42, U 43, U 44, U 45, U 46, U 47, U 48, U 49, U 50, U 51, U 52, U 53, U 54, U 55, U 56, U 57, U 58, U 59, U 60, U 61, U 62, U 63, U 64, U 65, U 66, U 67, U 68, U 69, U 70, U 71, U 72, U 73, U 74, U 75, U 76, U 77, U 78, U 79, U 80, U 81, U 82, U 83, U 84, U 85, U 86, U 87, U 88, U 89, U 90, U 91, U 92, U 93, U 94, U 95, U 96, U 97, U 98, U 99, U 100, U 101, U 102, U 103, U 104, U 105, U 106, U 107, U 108, U 109, U 110, U 111, U 112, U 113, U 114, U 115, U 116, U 117, U 118, U 119, U 120, U 121, U 122, U 123, U 124, U 125, U 126, U 127, U 128, U 129, U 130, U 131, U 132], defers := [] } := by rw [hU]; exact ha
    have HW' := Aside0.mk hw'
    have hc := hw'.cell
    have hf := hw'.free 2
    clear ha hU hw'
    subst ha2
    go_wp2
    simp only [Exit.jump]
    go_end0
    exact ⟨rfl, HW'.out.bad _, hk'.trans ((Lib.OthersKept.refl _ _ _).setCell ⟨b, 2, none⟩ rfl _)⟩
  case first =>
  go_upto_region 2 with (go_at_call 36; refine (hsh _).mono ?_; rintro e w1 ⟨SA, rfl, hA, hb1⟩; unfold shapeV; have hz1 : w.heap.size < w1.heap.size := (by have := hb1.size; (try simp at this); omega); have hbx0 : ∀ i, w1.cell? ⟨w.heap.size, i, none⟩ = (#[.int .i64 op, .slice A ks.length c, .string nm, .string pr, .int .i64 v.k, .bool v.b, .int .i64 v.n, .string v.s, .slice v.A v.p.length v.c] : Array Value)[i]? := (fun i => (hb1.cell (p := ⟨w.heap.size, i, none⟩) (by simp)).trans (by simp [go_sem])); have HBA := Aside0.mk hb1; have HB1 := Aside0.mk (below_then (below_more (Below.refl w.heap.size w) _) hb1); clear hb1)
  have HWS1 := HW.out.below HB1.out
  have hc2 := (HWS1.alloc (.cells #[.int .i64 s.lvl, .slice SA s.asks.length s.asks.length, .string ⟨s.ahead.toArray⟩, .string ⟨s.sign.toArray⟩, .string ⟨s.behind.toArray⟩] 88)).cell
  have HWS2 := Aside0.mk HWS1
  clear HWS1
  go_wp2
  refine wp_goto ?_
  exact ⟨rfl, rfl, _, _, HWS2.out.alloc _, kept_alloc (kept_below HB1.out) _⟩
set_option maxRecDepth 100000 in
set_option maxHeartbeats 3200000 in
theorem x_none (w0 : World) (b : Nat) (T TT : List UInt8) (op : Int) (A : Option Addr) (ks : List XD) (c : Nat) (nm pr : ByteArray) (v : VX) (d : Nat) (w : World) (s : Shp) (hsh : ∀ W, Calls Tryd.prog 36 #[.int .i64 op] W (shapeQ s W)) (hw : WS w0 b T false w) (h0b : s.lvl = 0) :
    Calls Tryd.prog 14 #[.pointer (some ⟨b, 0, none⟩), .agg #[.int .i64 op, .slice A ks.length c, .string nm, .string pr, .int .i64 v.k, .bool v.b, .int .i64 v.n, .string v.s, .slice v.A v.p.length v.c], .int .i64 d] w fun e w' => e = .returned (.tuple #[]) ∧ (WS w0 b TT true w' ∧ KeptB b w w') := by
  have HW := Aside0.mk hw
  clear hw
  go_enter Tryd.func14, Tryd.ntmps14
  go_wp2_with (fail)
  refine wp_scope_jumps 0 (fun a' w' => a' = { tmps := #[.pointer (some ⟨b, 0, none⟩), (a'.tmps.getD 1 undef), (a'.tmps.getD 2 undef), (a'.tmps.getD 3 undef), (a'.tmps.getD 4 undef), (a'.tmps.getD 5 undef), (a'.tmps.getD 6 undef), (a'.tmps.getD 7 undef), (a'.tmps.getD 8 undef), (a'.tmps.getD 9 undef), (a'.tmps.getD 10 undef), (a'.tmps.getD 11 undef), (a'.tmps.getD 12 undef), (a'.tmps.getD 13 undef), (a'.tmps.getD 14 undef), (a'.tmps.getD 15 undef), (a'.tmps.getD 16 undef), (a'.tmps.getD 17 undef), (a'.tmps.getD 18 undef), (a'.tmps.getD 19 undef), (a'.tmps.getD 20 undef), (a'.tmps.getD 21 undef), (a'.tmps.getD 22 undef), (a'.tmps.getD 23 undef), (a'.tmps.getD 24 undef), (a'.tmps.getD 25 undef), (a'.tmps.getD 26 undef), (a'.tmps.getD 27 undef), (a'.tmps.getD 28 undef), (a'.tmps.getD 29 undef), (a'.tmps.getD 30 undef), (a'.tmps.getD 31 undef), (a'.tmps.getD 32 undef), (a'.tmps.getD 33 undef), (a'.tmps.getD 34 undef), (a'.tmps.getD 35 undef), (a'.tmps.getD 36 undef), (a'.tmps.getD 37 undef), (a'.tmps.getD 38 undef), (a'.tmps.getD 39 undef), (a'.tmps.getD 40 undef), (a'.tmps.getD 41 undef), (a'.tmps.getD 42 undef), (a'.tmps.getD 43 undef), (a'.tmps.getD 44 undef), (a'.tmps.getD 45 undef), (a'.tmps.getD 46 undef), (a'.tmps.getD 47 undef), (a'.tmps.getD 48 undef), (a'.tmps.getD 49 undef), (a'.tmps.getD 50 undef), (a'.tmps.getD 51 undef), (a'.tmps.getD 52 undef), (a'.tmps.getD 53 undef), (a'.tmps.getD 54 undef), (a'.tmps.getD 55 undef), (a'.tmps.getD 56 undef), (a'.tmps.getD 57 undef), (a'.tmps.getD 58 undef), (a'.tmps.getD 59 undef), (a'.tmps.getD 60 undef), (a'.tmps.getD 61 undef), (a'.tmps.getD 62 undef), (a'.tmps.getD 63 undef), (a'.tmps.getD 64 undef), (a'.tmps.getD 65 undef), (a'.tmps.getD 66 undef), (a'.tmps.getD 67 undef), (a'.tmps.getD 68 undef), (a'.tmps.getD 69 undef), (a'.tmps.getD 70 undef), (a'.tmps.getD 71 undef), (a'.tmps.getD 72 undef), (a'.tmps.getD 73 undef), (a'.tmps.getD 74 undef), (a'.tmps.getD 75 undef), (a'.tmps.getD 76 undef), (a'.tmps.getD 77 undef), (a'.tmps.getD 78 undef), (a'.tmps.getD 79 undef), (a'.tmps.getD 80 undef), (a'.tmps.getD 81 undef), (a'.tmps.getD 82 undef), (a'.tmps.getD 83 undef), (a'.tmps.getD 84 undef), (a'.tmps.getD 85 undef), (a'.tmps.getD 86 undef), (a'.tmps.getD 87 undef), (a'.tmps.getD 88 undef), (a'.tmps.getD 89 undef), (a'.tmps.getD 90 undef), (a'.tmps.getD 91 undef), (a'.tmps.getD 92 undef), (a'.tmps.getD 93 undef), (a'.tmps.getD 94 undef), (a'.tmps.getD 95 undef), (a'.tmps.getD 96 undef), (a'.tmps.getD 97 undef), (a'.tmps.getD 98 undef), (a'.tmps.getD 99 undef), (a'.tmps.getD 100 undef), (a'.tmps.getD 101 undef), (a'.tmps.getD 102 undef), (a'.tmps.getD 103 undef), (a'.tmps.getD 104 undef), (a'.tmps.getD 105 undef), (a'.tmps.getD 106 undef), (a'.tmps.getD 107 undef), (a'.tmps.getD 108 undef), (a'.tmps.getD 109 undef), (a'.tmps.getD 110 undef), (a'.tmps.getD 111 undef), (a'.tmps.getD 112 undef), (a'.tmps.getD 113 undef), (a'.tmps.getD 114 undef), (a'.tmps.getD 115 undef), (a'.tmps.getD 116 undef), (a'.tmps.getD 117 undef), (a'.tmps.getD 118 undef), (a'.tmps.getD 119 undef), (a'.tmps.getD 120 undef), (a'.tmps.getD 121 undef), (a'.tmps.getD 122 undef), (a'.tmps.getD 123 undef), (a'.tmps.getD 124 undef), (a'.tmps.getD 125 undef), (a'.tmps.getD 126 undef), (a'.tmps.getD 127 undef), (a'.tmps.getD 128 undef), (a'.tmps.getD 129 undef), (a'.tmps.getD 130 undef), (a'.tmps.getD 131 undef), (a'.tmps.getD 132 undef)], defers := [] } ∧ ∃ T' fl', WS w0 b T' fl' w' ∧ KeptB b w w') (fun _ _ => 0) rfl ?first ?pass
  case pass =>
    rintro a' w' ⟨ha, T', fl', hw', hk'⟩
    obtain ⟨U, hU⟩ : ∃ U : Nat → Value, U = fun i => a'.tmps.getD i undef := ⟨_, rfl⟩
    have ha2 : a' = { tmps := #[.pointer (some ⟨b, 0, none⟩), U 1, U 2, U 3, U 4, U 5, U 6, U 7, U 8, U 9, U 10, U 11, U 12, U 13, U 14, U 15, U 16, U 17, U 18, U 19, U 20, U 21, U 22, U 23, U 24, U 25, U 26, U 27, U 28, U 29, U 30, U 31, U 32, U 33, U 34, U 35, U 36, U 37, U 38, U 39, U 40, U 41, U 42, U 43, U 44, U 45, U 46, U 47, U 48, U 49, U 50, U 51, U 52, U 53, U 54, U 55, U 56, U 57, U 58, U 59, U 60, U 61, U 62, U 63, U 64, U 65, U 66, U 67, U 68, U 69, U 70, U 71, U 72, U 73, U 74, U 75, U 76, U 77, U 78, U 79, U 80, U 81, U 82, U 83, U 84, U 85, U 86, U 87, U 88, U 89, U 90, U 91, U 92, U 93, U 94, U 95, U 96, U 97, U 98, U 99, U 100, U 101, U 102, U 103, U 104, U 105, U 106, U 107, U 108, U 109, U 110, U 111, U 112, U 113, U 114, U 115, U 116, U 117, U 118, U 119, U 120, U 121, U 122, U 123, U 124, U 125, U 126, U 127, U 128, U 129, U 130, U 131, U 132], defers := [] } := by rw [hU]; exact ha
    have HW' := Aside0.mk hw'
    have hc := hw'.cell
    have hf := hw'.free 2
    clear ha hU hw'
    subst ha2
    go_wp2
    simp only [Exit.jump]
    go_end0
    exact ⟨rfl, HW'.out.bad _, hk'.trans ((Lib.OthersKept.refl _ _ _).setCell ⟨b, 2, none⟩ rfl _)⟩
  case first =>
  go_upto_region 2 with (go_at_call 36; refine (hsh _).mono ?_; rintro e w1 ⟨SA, rfl, hA, hb1⟩; unfold shapeV; have hz1 : w.heap.size < w1.heap.size := (by have := hb1.size; (try simp at this); omega); have hbx0 : ∀ i, w1.cell? ⟨w.heap.size, i, none⟩ = (#[.int .i64 op, .slice A ks.length c, .string nm, .string pr, .int .i64 v.k, .bool v.b, .int .i64 v.n, .string v.s, .slice v.A v.p.length v.c] : Array Value)[i]? := (fun i => (hb1.cell (p := ⟨w.heap.size, i, none⟩) (by simp)).trans (by simp [go_sem])); have HBA := Aside0.mk hb1; have HB1 := Aside0.mk (below_then (below_more (Below.refl w.heap.size w) _) hb1); clear hb1)
  obtain ⟨sl, sa, sh, sg, sb⟩ := s
  simp only at h0b
  subst h0b
  have HWS1 := HW.out.below HB1.out
  have hc2 := (HWS1.alloc (.cells #[.int .i64 0, .slice SA sa.length sa.length, .string ⟨sh.toArray⟩, .string ⟨sg.toArray⟩, .string ⟨sb.toArray⟩] 88)).cell
  have HWS2 := Aside0.mk HWS1
  clear HWS1
  go_wp2
  refine wp_goto ?_
  exact ⟨rfl, rfl, _, _, HWS2.out.alloc _, kept_alloc (kept_below HB1.out) _⟩
set_option maxRecDepth 100000 in
set_option maxHeartbeats 3200000 in
theorem x_bare (w0 : World) (b : Nat) (T TT : List UInt8) (op : Int) (A : Option Addr) (ks : List XD) (c : Nat) (nm pr : ByteArray) (v : VX) (d : Nat) (w : World) (s : Shp) (hsh : ∀ W, Calls Tryd.prog 36 #[.int .i64 op] W (shapeQ s W)) (hw : WS w0 b T false w) (h0 : (s.lvl == 0) = false) (h0b : ¬ s.lvl = 0)
    (hpl : ∀ W, Below w.heap.size w W → Calls Tryd.prog 37 #[.agg #[.int .i64 op, .slice A ks.length c, .string nm, .string pr, .int .i64 v.k, .bool v.b, .int .i64 v.n, .string v.s, .slice v.A v.p.length v.c], .int .i64 s.asks.length] W fun e w' => e = .returned (.bool false) ∧ Below W.heap.size W w') :
    Calls Tryd.prog 14 #[.pointer (some ⟨b, 0, none⟩), .agg #[.int .i64 op, .slice A ks.length c, .string nm, .string pr, .int .i64 v.k, .bool v.b, .int .i64 v.n, .string v.s, .slice v.A v.p.length v.c], .int .i64 d] w fun e w' => e = .returned (.tuple #[]) ∧ (WS w0 b TT true w' ∧ KeptB b w w') := by
  have HW := Aside0.mk hw
  clear hw
  go_enter Tryd.func14, Tryd.ntmps14
  go_wp2_with (fail)
  refine wp_scope_jumps 0 (fun a' w' => a' = { tmps := #[.pointer (some ⟨b, 0, none⟩), (a'.tmps.getD 1 undef), (a'.tmps.getD 2 undef), (a'.tmps.getD 3 undef), (a'.tmps.getD 4 undef), (a'.tmps.getD 5 undef), (a'.tmps.getD 6 undef), (a'.tmps.getD 7 undef), (a'.tmps.getD 8 undef), (a'.tmps.getD 9 undef), (a'.tmps.getD 10 undef), (a'.tmps.getD 11 undef), (a'.tmps.getD 12 undef), (a'.tmps.getD 13 undef), (a'.tmps.getD 14 undef), (a'.tmps.getD 15 undef), (a'.tmps.getD 16 undef), (a'.tmps.getD 17 undef), (a'.tmps.getD 18 undef), (a'.tmps.getD 19 undef), (a'.tmps.getD 20 undef), (a'.tmps.getD 21 undef), (a'.tmps.getD 22 undef), (a'.tmps.getD 23 undef), (a'.tmps.getD 24 undef), (a'.tmps.getD 25 undef), (a'.tmps.getD 26 undef), (a'.tmps.getD 27 undef), (a'.tmps.getD 28 undef), (a'.tmps.getD 29 undef), (a'.tmps.getD 30 undef), (a'.tmps.getD 31 undef), (a'.tmps.getD 32 undef), (a'.tmps.getD 33 undef), (a'.tmps.getD 34 undef), (a'.tmps.getD 35 undef), (a'.tmps.getD 36 undef), (a'.tmps.getD 37 undef), (a'.tmps.getD 38 undef), (a'.tmps.getD 39 undef), (a'.tmps.getD 40 undef), (a'.tmps.getD 41 undef), (a'.tmps.getD 42 undef), (a'.tmps.getD 43 undef), (a'.tmps.getD 44 undef), (a'.tmps.getD 45 undef), (a'.tmps.getD 46 undef), (a'.tmps.getD 47 undef), (a'.tmps.getD 48 undef), (a'.tmps.getD 49 undef), (a'.tmps.getD 50 undef), (a'.tmps.getD 51 undef), (a'.tmps.getD 52 undef), (a'.tmps.getD 53 undef), (a'.tmps.getD 54 undef), (a'.tmps.getD 55 undef), (a'.tmps.getD 56 undef), (a'.tmps.getD 57 undef), (a'.tmps.getD 58 undef), (a'.tmps.getD 59 undef), (a'.tmps.getD 60 undef), (a'.tmps.getD 61 undef), (a'.tmps.getD 62 undef), (a'.tmps.getD 63 undef), (a'.tmps.getD 64 undef), (a'.tmps.getD 65 undef), (a'.tmps.getD 66 undef), (a'.tmps.getD 67 undef), (a'.tmps.getD 68 undef), (a'.tmps.getD 69 undef), (a'.tmps.getD 70 undef), (a'.tmps.getD 71 undef), (a'.tmps.getD 72 undef), (a'.tmps.getD 73 undef), (a'.tmps.getD 74 undef), (a'.tmps.getD 75 undef), (a'.tmps.getD 76 undef), (a'.tmps.getD 77 undef), (a'.tmps.getD 78 undef), (a'.tmps.getD 79 undef), (a'.tmps.getD 80 undef), (a'.tmps.getD 81 undef), (a'.tmps.getD 82 undef), (a'.tmps.getD 83 undef), (a'.tmps.getD 84 undef), (a'.tmps.getD 85 undef), (a'.tmps.getD 86 undef), (a'.tmps.getD 87 undef), (a'.tmps.getD 88 undef), (a'.tmps.getD 89 undef), (a'.tmps.getD 90 undef), (a'.tmps.getD 91 undef), (a'.tmps.getD 92 undef), (a'.tmps.getD 93 undef), (a'.tmps.getD 94 undef), (a'.tmps.getD 95 undef), (a'.tmps.getD 96 undef), (a'.tmps.getD 97 undef), (a'.tmps.getD 98 undef), (a'.tmps.getD 99 undef), (a'.tmps.getD 100 undef), (a'.tmps.getD 101 undef), (a'.tmps.getD 102 undef), (a'.tmps.getD 103 undef), (a'.tmps.getD 104 undef), (a'.tmps.getD 105 undef), (a'.tmps.getD 106 undef), (a'.tmps.getD 107 undef), (a'.tmps.getD 108 undef), (a'.tmps.getD 109 undef), (a'.tmps.getD 110 undef), (a'.tmps.getD 111 undef), (a'.tmps.getD 112 undef), (a'.tmps.getD 113 undef), (a'.tmps.getD 114 undef), (a'.tmps.getD 115 undef), (a'.tmps.getD 116 undef), (a'.tmps.getD 117 undef), (a'.tmps.getD 118 undef), (a'.tmps.getD 119 undef), (a'.tmps.getD 120 undef), (a'.tmps.getD 121 undef), (a'.tmps.getD 122 undef), (a'.tmps.getD 123 undef), (a'.tmps.getD 124 undef), (a'.tmps.getD 125 undef), (a'.tmps.getD 126 undef), (a'.tmps.getD 127 undef), (a'.tmps.getD 128 undef), (a'.tmps.getD 129 undef), (a'.tmps.getD 130 undef), (a'.tmps.getD 131 undef), (a'.tmps.getD 132 undef)], defers := [] } ∧ ∃ T' fl', WS w0 b T' fl' w' ∧ KeptB b w w') (fun _ _ => 0) rfl ?first ?pass
  case pass =>
    rintro a' w' ⟨ha, T', fl', hw', hk'⟩
    obtain ⟨U, hU⟩ : ∃ U : Nat → Value, U = fun i => a'.tmps.getD i undef := ⟨_, rfl⟩
    have ha2 : a' = { tmps := #[.pointer (some ⟨b, 0, none⟩), U 1, U 2, U 3, U 4, U 5, U 6, U 7, U 8, U 9, U 10, U 11, U 12, U 13, U 14, U 15, U 16, U 17, U 18, U 19, U 20, U 21, U 22, U 23, U 24, U 25, U 26, U 27, U 28, U 29, U 30, U 31, U 32, U 33, U 34, U 35, U 36, U 37, U 38, U 39, U 40, U 41, U 42, U 43, U 44, U 45, U 46, U 47, U 48, U 49, U 50, U 51, U 52, U 53, U 54, U 55, U 56, U 57, U 58, U 59, U 60, U 61, U 62, U 63, U 64, U 65, U 66, U 67, U 68, U 69, U 70, U 71, U 72, U 73, U 74, U 75, U 76, U 77, U 78, U 79, U 80, U 81, U 82, U 83, U 84, U 85, U 86, U 87, U 88, U 89, U 90, U 91, U 92, U 93, U 94, U 95, U 96, U 97, U 98, U 99, U 100, U 101, U 102, U 103, U 104, U 105, U 106, U 107, U 108, U 109, U 110, U 111, U 112, U 113, U 114, U 115, U 116, U 117, U 118, U 119, U 120, U 121, U 122, U 123, U 124, U 125, U 126, U 127, U 128, U 129, U 130, U 131, U 132], defers := [] } := by rw [hU]; exact ha
    have HW' := Aside0.mk hw'
    have hc := hw'.cell
    have hf := hw'.free 2
    clear ha hU hw'
    subst ha2
    go_wp2
    simp only [Exit.jump]
    go_end0
    exact ⟨rfl, HW'.out.bad _, hk'.trans ((Lib.OthersKept.refl _ _ _).setCell ⟨b, 2, none⟩ rfl _)⟩
  case first =>
  go_upto_region 2 with (go_at_call 36; refine (hsh _).mono ?_; rintro e w1 ⟨SA, rfl, hA, hb1⟩; unfold shapeV; have hz1 : w.heap.size < w1.heap.size := (by have := hb1.size; (try simp at this); omega); have hbx0 : ∀ i, w1.cell? ⟨w.heap.size, i, none⟩ = (#[.int .i64 op, .slice A ks.length c, .string nm, .string pr, .int .i64 v.k, .bool v.b, .int .i64 v.n, .string v.s, .slice v.A v.p.length v.c] : Array Value)[i]? := (fun i => (hb1.cell (p := ⟨w.heap.size, i, none⟩) (by simp)).trans (by simp [go_sem])); have HBA := Aside0.mk hb1; have HB1 := Aside0.mk (below_then (below_more (Below.refl w.heap.size w) _) hb1); clear hb1)
  have HWS1 := HW.out.below HB1.out
  have hc2 := (HWS1.alloc (.cells #[.int .i64 s.lvl, .slice SA s.asks.length s.asks.length, .string ⟨s.ahead.toArray⟩, .string ⟨s.sign.toArray⟩, .string ⟨s.behind.toArray⟩] 88)).cell
  have HWS2 := Aside0.mk HWS1
  clear HWS1
  go_wp2_with (go_at_call 37; refine (hpl _ (below_more HB1.out _)).mono ?_; rintro e w3 ⟨rfl, hb3⟩; have HW3 : Aside0 (WS w0 b T false w3) := ⟨(HWS2.out.alloc _).below hb3⟩; have HK3 : Aside0 (KeptB b w w3) := ⟨kept_below (below_then (below_more HB1.out _) hb3)⟩; clear hb3)
  refine wp_goto ?_
  exact ⟨rfl, rfl, _, _, HW3.out, HK3.out⟩
end Go.Proofs.YtkchpgjjkckfbaaDoor
