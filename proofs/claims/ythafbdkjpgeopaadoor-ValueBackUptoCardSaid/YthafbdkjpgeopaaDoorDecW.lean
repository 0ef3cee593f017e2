/- What bytes read as: no program in sight. Words for the walks of Decode: bytes that are read, and their parts. The reference's take: a number of n bytes from a place on. Bytes that are read, as a text. What Decode answers, in plain words: no program in sight. An append of one number to an own row of numbers. -/
import Derived.Test.YthafbdkjpgeopaaDoorVal0
import Derived.Laws.BitsAllLaws
import Derived.Test.YthafbdkjpgeopaaDoorEncA
import Derived.Test.YthafbdkjpgeopaaDoorBld
import Derived.Test.YthafbdkjpgeopaaDoorShelf
import Derived.Deep.LoopGhost
import Derived.Deep.Cut
import Derived.Laws.BytesArg
import Derived.Test.YthafbdkjpgeopaaDoorCopied
set_option linter.unusedVariables false
set_option linter.unusedSimpArgs false
namespace Go.Proofs.YthafbdkjpgeopaaDoor
open Go.RowKit

/-- The number that bytes stand for, the highest first. -/
def beI (l : List Int) : Int := l.foldl (fun x c => x * 256 + c) 0
theorem beI_snoc (l : List Int) (c : Int) : beI (l ++ [c]) = beI l * 256 + c := by simp [beI]
theorem beI_bound : ∀ (n : Nat) (l : List Int), l.length = n → (∀ x ∈ l, 0 ≤ x ∧ x < 256) → 0 ≤ beI l ∧ beI l < 256 ^ n
  | 0, l, hl, _ => by
    obtain rfl : l = [] := List.length_eq_zero_iff.1 hl
    simp [beI]
  | n + 1, l, hl, h => by
    rcases List.eq_nil_or_concat l with rfl | ⟨t, c, rfl⟩
    · simp at hl
    · have h1 := beI_bound n t (by simpa using hl) (fun x hx => h x (by simp [hx]))
      have hc := h c (by simp)
      rw [List.concat_eq_append, beI_snoc, Int.pow_succ]
      omega
theorem beI_take (l : List Int) (k : Nat) (h : k < l.length) : beI (l.take (k + 1)) = beI (l.take k) * 256 + l.getD k 0 := by
  rw [List.take_add_one, List.getD_eq_getElem?_getD, List.getElem?_eq_getElem h]
  exact beI_snoc _ _
/-- A byte laid behind a number, as the machine does. -/
theorem or_byte64 (x c : Int) (hx : 0 ≤ x) (hx1 : x < 72057594037927936) (hc : 0 ≤ c) (hc1 : c < 256) : bits .or .u64 (x * 256) c = x * 256 + c := by
  rw [u64_or (x * 256) c (by omega) (by omega) (by omega) (by omega)]
  obtain ⟨X, rfl⟩ := Int.eq_ofNat_of_zero_le hx
  obtain ⟨C, rfl⟩ := Int.eq_ofNat_of_zero_le hc
  have e : ((X : Int) * 256).toNat = 2 ^ 8 * X := by omega
  rw [e, show ((C : Int)).toNat = C from rfl, ← Nat.two_pow_add_eq_or_of_lt (show C < 2 ^ 8 by omega)]
  omega
/-- As a number with a sign. -/
def sgn (x : Int) : Int := IntKind.i64.wrap x
theorem or_byteI (x c : Int) (hc : 0 ≤ c) (hc1 : c < 256) : bits .or .i64 (sgn (x * 256)) c = sgn (x * 256 + c) := by
  obtain ⟨C, rfl⟩ := Int.eq_ofNat_of_zero_le hc
  show IntKind.i64.wrap ((BitVec.ofInt 64 (sgn (x * 256)) ||| BitVec.ofInt 64 (C : Int)).toNat : Int) = _
  rw [BitVec.toNat_or]
  have e1 : (BitVec.ofInt 64 (sgn (x * 256))).toNat = 2 ^ 8 * ((x % 72057594037927936).toNat) := by
    rw [BitVec.toNat_ofInt]
    have : (sgn (x * 256)) % ((2 ^ 64 : Nat) : Int) = (x % 72057594037927936) * 256 := by
      simp only [sgn, IntKind.wrap, IntKind.signed, IntKind.bits]
      simp
      omega
    rw [this]
    omega
  have e2 : (BitVec.ofInt 64 (C : Int)).toNat = C := by
    rw [BitVec.toNat_ofInt]
    omega
  rw [e1, e2, ← Nat.two_pow_add_eq_or_of_lt (show C < 2 ^ 8 by omega)]
  simp only [sgn, IntKind.wrap, IntKind.signed, IntKind.bits]
  simp
  omega
/-- The bytes of a slice are read. -/
def ReadsB (w : World) (A : Option Addr) (l : List Int) : Prop :=
  l.length ≤ 9223372036854775807 ∧ (0 < l.length → ∃ ad, A = some ad ∧ ∀ j, j < l.length → w.cell? (ad.add j) = some (.int .u8 (l.getD j 0)))
theorem ReadsB.below {w w1 : World} {A : Option Addr} {l : List Int} (h : ReadsB w A l) (hb : Below w.heap.size w w1) : ReadsB w1 A l :=
  ⟨h.1, fun hn => by
    obtain ⟨ad, e, hc⟩ := h.2 hn
    exact ⟨ad, e, fun j hj => (hb.cell (World.block_lt_of_cell? w _ (hc j hj))).trans (hc j hj)⟩⟩
theorem ReadsB.at_ {w : World} {A : Option Addr} {l : List Int} (h : ReadsB w A l) (i : Nat) (hi : i < l.length) : ∃ ad, A = some ad ∧ w.cell? (ad.add i) = some (.int .u8 (l.getD i 0)) := by
  obtain ⟨ad, e, hc⟩ := h.2 (by omega)
  exact ⟨ad, e, hc _ hi⟩
theorem add_add (ad : Addr) (i j : Nat) : (ad.add i).add j = ad.add (i + j) := by
  unfold Addr.add
  by_cases hi : i = 0
  · subst hi
    simp
  · by_cases hj : j = 0
    · subst hj
      simp
    · simp [hi, hj]
      omega
/-- Where a slice stands whose head is cut off. -/
def cutA (A : Option Addr) (c i : Nat) : Option Addr := if c = i then A else A.map (·.add i)
theorem ReadsB.drop {w : World} {A : Option Addr} {l : List Int} (h : ReadsB w A l) (c i : Nat) (hc : l.length ≤ c) : ReadsB w (cutA A c i) (l.drop i) := by
  refine ⟨by rw [List.length_drop]; have := h.1; omega, fun hn => ?_⟩
  rw [List.length_drop] at hn
  obtain ⟨ad, rfl, hcell⟩ := h.2 (by omega)
  refine ⟨ad.add i, by rw [cutA, if_neg (by omega)]; rfl, fun j hj => ?_⟩
  rw [List.length_drop] at hj
  rw [add_add, hcell (i + j) (by omega)]
  simp [List.getD]
theorem ReadsB.take {w : World} {A : Option Addr} {l : List Int} (h : ReadsB w A l) (i : Nat) : ReadsB w A (l.take i) := by
  refine ⟨by rw [List.length_take]; have := h.1; omega, fun hn => ?_⟩
  rw [List.length_take] at hn
  obtain ⟨ad, rfl, hcell⟩ := h.2 (by omega)
  refine ⟨ad, rfl, fun j hj => ?_⟩
  rw [List.length_take] at hj
  rw [hcell j (by omega)]
  simp [List.getD, List.getElem?_take, show j < i by omega]
theorem slice_from (W : World) (A : Option Addr) (m c i : Nat) (hi : i ≤ m) (hc : m ≤ c) :
    (Instr.slice 30 (.slice A m c) (some (.int .i64 (i : Int))) none none).run Tryd.prog W = .ok (.slice (cutA A c i) (m - i) (c - i)) W := by
  unfold cutA
  go_simp
theorem slice_to (W : World) (A : Option Addr) (m c i : Nat) (hi : i ≤ m) (hc : m ≤ c) :
    (Instr.slice 30 (.slice A m c) none (some (.int .i64 (i : Int))) none).run Tryd.prog W = .ok (.slice A i c) W := by
  go_simp
  intro h
  omega
/-- A box that holds a value's five cells. -/
def Box (W : World) (b : Nat) (cs : Array Value) : Prop := W.heap[b]? = some (.cells cs 25 (0, 0))
theorem Box.cells {W : World} {b : Nat} {cs : Array Value} (h : Box W b cs) : ∀ j, W.cell? ⟨b, j, none⟩ = cs[j]? := fun j => by
  unfold World.cell?
  rw [h]
  rfl
theorem Box.free {W : World} {b : Nat} {cs : Array Value} (h : Box W b cs) : ∀ j, W.frozen? ⟨b, j, none⟩ = false := fun j => Lib.frozen_of_heap h j
theorem Box.new (W : World) (cs : Array Value) : Box (W.alloc (.cells cs 25)) W.heap.size cs := heap_alloc_new W _
theorem Box.lt {W : World} {b : Nat} {cs : Array Value} (h : Box W b cs) : b < W.heap.size := (Array.getElem?_eq_some_iff.1 h).1
theorem Box.more {W : World} {b : Nat} {cs : Array Value} (h : Box W b cs) (o : Obj) : Box (W.alloc o) b cs := (heap_alloc_old W o h.lt).trans h
theorem Box.put {W : World} {b : Nat} {cs : Array Value} (h : Box W b cs) (j : Nat) (v : Value) : Box (W.setCell ⟨b, j, none⟩ v) b (cs.setIfInBounds j v) := heap_setCell_same W b j cs _ v h
theorem Box.off {W : World} {b : Nat} {cs : Array Value} (h : Box W b cs) (p : Addr) (v : Value) (hp : b ≠ p.block) : Box (W.setCell p v) b cs := (heap_setCell_other W p b v hp).trans h
theorem Box.kept {W W' : World} {b : Nat} {cs : Array Value} (h : Box W b cs) (hb : Below W.heap.size W W') : Box W' b cs := (hb.block b h.lt).trans h
theorem results_c3 {fn : Func} {a u v : Tmp} {t : TypeId} {x : Value} {P : Program} {w : World} {p : Addr} (tmps : Array Value) (h : fn.results = #[.cell a t, .tmp u, .tmp v]) (hp : tmps.getD a undef = .pointer (some p)) (hl : (loadVar t p).run P w = .ok x w) :
    (results fn tmps).run P w = .ok (.tuple #[x, tmps.getD u undef, tmps.getD v undef]) w := by
  rw [Array.getD_eq_getD_getElem?] at hp
  simp [results, h, hp, hl, asAddr]
theorem box_load {W : World} {b : Nat} {c0 c1 c2 c3 c4 : Value} (h : Box W b #[c0, c1, c2, c3, c4]) (h0 : c0.oneCell' = true) (h1 : c1.oneCell' = true) (h2 : c2.oneCell' = true) (h3 : c3.oneCell' = true) (h4 : c4.oneCell' = true) :
    (loadVar 25 ⟨b, 0, none⟩).run Tryd.prog W = .ok (.agg #[c0, c1, c2, c3, c4]) W := by
  have hc := h.cells
  go_simp
/-- What take answers. -/
def takeV (bs : List Int) (i n : Nat) : Int := if i + n ≤ bs.length then beI ((bs.drop i).take n) else 0
def takeB (bs : List Int) (i n : Nat) : Bool := decide (i + n ≤ bs.length)
set_option maxRecDepth 100000 in
set_option maxHeartbeats 3200000 in
theorem rtake_any (A : Option Addr) (bs : List Int) (c : Nat) (i n : Nat) (w : World) (hr : ReadsB w A bs) (hbt : ∀ x ∈ bs, 0 ≤ x ∧ x < 256) (hn : n ≤ 8) (hi : i ≤ 9223372036854775000) :
    Calls Tryd.prog 71 #[.slice A bs.length c, .int .i64 (i : Int), .int .i64 (n : Int)] w fun e w' => e = .returned (.tuple #[.int .u64 (takeV bs i n), .bool (takeB bs i n)]) ∧ Below w.heap.size w w' := by
  obtain ⟨m, hm⟩ : ∃ m, m = bs.length := ⟨_, rfl⟩
  have hm63 : (m : Int) ≤ 9223372036854775807 := by have := hr.1; omega
  have hi0 : (0 : Int) ≤ (i : Int) := by omega
  have hi9 : (i : Int) ≤ 9223372036854775000 := by omega
  have hn0 : (0 : Int) ≤ (n : Int) := by omega
  have hn8 : (n : Int) ≤ 8 := by omega
  by_cases hfit : i + n ≤ bs.length
  · have hV : takeV bs i n = beI ((bs.drop i).take n) := if_pos hfit
    have hB : takeB bs i n = true := decide_eq_true hfit
    rw [hV, hB, ← hm]
    have hnot : ¬ ((m : Int) - (i : Int) < (n : Int)) := by omega
    have HR := Aside0.mk hr
    have HM := Aside0.mk hm
    have HF := Aside0.mk hfit
    have HBT := Aside0.mk hbt
    clear hr hm hfit hbt hV hB
    go_enter Tryd.func71, Tryd.ntmps71
    go_wp2
    go_loopg [8, 9] (n + 1) (fun gg s8 s9 wr => ∃ j : Nat, j ≤ n ∧ n < gg + j ∧ s9 = .int .i64 j ∧ s8 = .int .u64 (beI ((bs.drop i).take j)) ∧ wr = w)
    case atStart => exact ⟨0, by omega, by omega, rfl, rfl, rfl⟩
    case round =>
      obtain ⟨j, hj, hg, rfl, rfl, rfl⟩ := hrel
      have hj0 : (0 : Int) ≤ (j : Int) := by omega
      by_cases hlt : j < n
      · have hlti : (j : Int) < (n : Int) := by omega
        have hij : i + j < bs.length := by have := HF.out; omega
        obtain ⟨ad, hA, hcs⟩ := HR.out.2 (by omega)
        have hcell := hcs (i + j) hij
        have hcb := HBT.out (bs.getD (i + j) 0) (by rw [List.getD_eq_getElem?_getD, List.getElem?_eq_getElem hij]; exact List.getElem_mem _)
        have hbe := beI_take (bs.drop i) j (by rw [List.length_drop]; omega)
        have hgd : (bs.drop i).getD j 0 = bs.getD (i + j) 0 := by simp [List.getD]
        rw [hgd] at hbe
        have hxb := beI_bound j ((bs.drop i).take j) (by rw [List.length_take, List.length_drop]; omega) (fun x hx => HBT.out x (List.mem_of_mem_drop (List.mem_of_mem_take hx)))
        have hx7 : (256 : Int) ^ j ≤ 72057594037927936 := by
          have : j = 0 ∨ j = 1 ∨ j = 2 ∨ j = 3 ∨ j = 4 ∨ j = 5 ∨ j = 6 ∨ j = 7 := by omega
          rcases this with rfl | rfl | rfl | rfl | rfl | rfl | rfl | rfl <;> decide
        subst hA
        clear hcs hgd
        generalize bs.getD (i + j) 0 = y at hcell hcb hbe
        generalize beI ((bs.drop i).take j) = x at hbe hxb
        have hor := or_byte64 x y hxb.1 (by omega) hcb.1 hcb.2
        have HBE := Aside0.mk hbe
        obtain ⟨q, hq⟩ : ∃ q, q = i + j := ⟨_, rfl⟩
        rw [← hq] at hcell
        have hqi : (i : Int) + (j : Int) = (q : Int) := by omega
        have hq0 : (0 : Int) ≤ (q : Int) := by omega
        have hqm : (q : Int) < (m : Int) := by have := HM.out; omega
        have hqs : (q : Int) ≤ 9223372036854775807 := by omega
        have HQ := Aside0.mk hq
        clear hbe hq hij
        go_wp2
        go_roundg (gk - 1)
        case measure => omega
        case rel => exact ⟨j + 1, by omega, by omega, by go_num, by rw [HBE.out], rfl⟩
      · obtain rfl : j = n := by omega
        have hnn : ¬ (j : Int) < (j : Int) := by omega
        go_wp2
        go_ret2
        exact ⟨rfl, Below.refl _ _⟩
  · have hV : takeV bs i n = 0 := if_neg hfit
    have hB : takeB bs i n = false := decide_eq_false hfit
    rw [hV, hB, ← hm]
    have hnot : (m : Int) - (i : Int) < (n : Int) := by omega
    clear hr hbt hfit hV hB hm
    go_enter Tryd.func71, Tryd.ntmps71
    go_wp2
    go_ret2
    exact ⟨rfl, Below.refl _ _⟩
theorem spot_ofB {W : World} {p : Addr} {v : Value} (h : W.cell? p = some v) : p.spot = none := by
  unfold World.cell? at h
  split at h
  · split at h
    · cases h
    · rename_i h2
      cases hs : p.spot
      · rfl
      · rw [hs] at h2; simp at h2
  · cases h
theorem conv_reads {W : World} {Q : Option Addr} {l : List Int} {c : Nat} (h : ReadsB W Q l) : ∃ S : ByteArray, (convert 30 9 (.slice Q l.length c)).run Tryd.prog W = .ok (.string S) W ∧ S = strOfNums l := by
  refine ⟨strOfNums l, ?_, rfl⟩
  rcases Nat.eq_zero_or_pos l.length with h0 | h0
  · obtain rfl : l = [] := List.length_eq_zero_iff.1 h0
    rw [run_convert_bytes_string W 30 9 5 _ _ _ Tryd.underlying30 Tryd.underlying5 Tryd.underlying9]
    cases Q with
    | none => simp [Conv.bytesToString, strOfNums]; rfl
    | some a => simp [Conv.bytesToString, strOfNums]; rfl
  · obtain ⟨ad, rfl, hc⟩ := h.2 h0
    have hs := spot_ofB (hc 0 h0)
    have hs' : ad.spot = none := by
      unfold Addr.add at hs
      simpa using hs
    obtain ⟨b, o, sp⟩ := ad
    simp only at hs'
    subst hs'
    have hadd : ∀ j, (⟨b, o, none⟩ : Addr).add j = ⟨b, o + j, none⟩ := fun j => by
      unfold Addr.add
      split
      · rename_i h; rw [h, Nat.add_zero]
      · rfl
    exact run_convert_bytes_arg W 30 5 Tryd.underlying30 Tryd.underlying5 b o l.length c l rfl (fun j hj => by have h9 := hc j hj; rw [hadd] at h9; exact h9) 9 Tryd.underlying9
/-- What is read: a value, where it ends, and the error. -/
structure D7 where
  k : Int
  n : Int
  b : Bool
  s : ByteArray
  p : List Int
  x : Int
  e : Int
def D7.bad : D7 := ⟨0, 0, false, ⟨#[]⟩, [], 0, 21⟩
/-- The numbers of a path. -/
def numsP (bs : List Int) (i n : Nat) : List Int := (List.range n).map fun j => sgn (beI ((bs.drop (i + 8 * j)).take 8))
theorem numsP_len (bs : List Int) (i n : Nat) : (numsP bs i n).length = n := by simp [numsP]
theorem numsP_succ (bs : List Int) (i n : Nat) : numsP bs i (n + 1) = numsP bs i n ++ [sgn (beI ((bs.drop (i + 8 * n)).take 8))] := by simp [numsP, List.range_succ]
/-- What is read at a place that is one. -/
def decO (bs : List Int) (i : Nat) : D7 :=
  let k := bs.getD i 0
  if k = 0 then ⟨0, 0, false, ⟨#[]⟩, [], (i : Int) + 1, 0⟩
  else if k = 1 then
    if i + 1 + 1 ≤ bs.length ∧ beI ((bs.drop (i + 1)).take 1) ≤ 1 then ⟨1, 0, beI ((bs.drop (i + 1)).take 1) == 1, ⟨#[]⟩, [], (i : Int) + 2, 0⟩ else D7.bad
  else if k = 2 ∨ k = 4 ∨ k = 5 then
    if i + 1 + 8 ≤ bs.length ∧ rightB k false (sgn (beI ((bs.drop (i + 1)).take 8))) ⟨#[]⟩ [] = true then ⟨k, sgn (beI ((bs.drop (i + 1)).take 8)), false, ⟨#[]⟩, [], (i : Int) + 9, 0⟩ else D7.bad
  else if k = 3 then
    if i + 1 + 4 ≤ bs.length ∧ beI ((bs.drop (i + 1)).take 4) ≤ 4096 ∧ beI ((bs.drop (i + 1)).take 4) ≤ (bs.length : Int) - ((i : Int) + 5) ∧ rightB 3 false 0 (strOfNums ((bs.drop (i + 5)).take (beI ((bs.drop (i + 1)).take 4)).toNat)) [] = true
    then ⟨3, 0, false, strOfNums ((bs.drop (i + 5)).take (beI ((bs.drop (i + 1)).take 4)).toNat), [], (i : Int) + 5 + beI ((bs.drop (i + 1)).take 4), 0⟩ else D7.bad
  else if k = 6 then
    if i + 1 + 1 ≤ bs.length ∧ i + 2 + 8 * (bs.getD (i + 1) 0).toNat ≤ bs.length ∧ rightB 6 false 0 ⟨#[]⟩ (numsP bs (i + 2) (bs.getD (i + 1) 0).toNat) = true
    then ⟨6, 0, false, ⟨#[]⟩, numsP bs (i + 2) (bs.getD (i + 1) 0).toNat, (i : Int) + 2 + 8 * (bs.getD (i + 1) 0).toNat, 0⟩ else D7.bad
  else D7.bad
/-- What is read at any place. -/
def decZ (bs : List Int) (z : Int) : D7 := if 0 ≤ z ∧ z < bs.length then decO bs z.toNat else D7.bad
/-- A call answers so. -/
def AnsD (d : D7) (w : World) (e : Ending) (w' : World) : Prop :=
  ∃ A c, e = .returned (.tuple #[.agg #[.int .i64 d.k, .bool d.b, .int .i64 d.n, .string d.s, .slice A d.p.length c], .int .i64 d.x, .int .i64 d.e]) ∧ ReadsI w' A d.p ∧ Below w.heap.size w w'
theorem ansD_empty {d : D7} {w : World} {e : Ending} {w' : World} (hp : d.p = []) (h : e = .returned (.tuple #[.agg #[.int .i64 d.k, .bool d.b, .int .i64 d.n, .string d.s, .slice none 0 0], .int .i64 d.x, .int .i64 d.e]) ∧ Below w.heap.size w w') : AnsD d w e w' := by
  obtain ⟨k, n, b, s, p, x, er⟩ := d
  cases hp
  exact ⟨none, 0, h.1, ⟨by simp, fun h => absurd h (by simp)⟩, h.2⟩
/-- An append of one number to an own row. -/
theorem append_i64 {w0 wr : World} {ops : Array Oper} {rest : List Oper} {o : Oper} {a : Act} {Q : Exit → Act → World → Prop} (hgd : o.guard = none) (s x : Operand)
    (ho : o.op = .call { callee := .builtin .append, args := #[s, x], argTypes := #[23, 23] }) (B : Nat)
    (v : Value) (n : Nat) (xs : List Value) (hs : a.eval s = v) (hown : wr.ownsRow B 2 1 v n xs) (b : Int) (hx : a.eval x = .slice (some ⟨wr.heap.size, 0, none⟩) 1 1)
    (hn : n ≤ 1000000000) (hB : B ≤ wr.heap.size) (hb : Below w0.heap.size w0 wr) (hw : w0.heap.size ≤ B)
    (h : ∀ v' w', w'.ownsRow B 2 1 v' (n + 1) (xs ++ [.int .i64 b]) → Below w0.heap.size w0 w' → wr.heap.size ≤ w'.heap.size → (∀ k, k < B → w'.heap[k]? = wr.heap[k]?) → wpList Tryd.prog ops Q rest (a.put o.dst v') w') :
    wpList Tryd.prog ops Q (o :: rest) a (wr.alloc (.cells #[.int .i64 b] 2)) := by
  obtain ⟨i0, hi, hz0, hz1, hz2⟩ := info_parts info_i64
  have hsz := hb.size
  refine wpList_append_own (wr.alloc (.cells #[.int .i64 b] 2)) hgd s x 23 ho B 2 i0 (.int .i64 0) 1 8 Tryd.underlying23 hi hz0 hz1 hz2 rfl (by decide) v n xs hs (hown.alloc _) ⟨wr.heap.size, 0, none⟩ 1 1 [.int .i64 b] hx rfl ?c1 ?c2 ?c3 ?c4 ?c5 ?_
  case c1 =>
    intro j u hj
    match j, hj with
    | 0, hj => simp at hj; subst hj; simp [Addr.add]
  case c2 => intro u hu; simp at hu; subst hu; rfl
  case c3 => unfold maxLen; omega
  case c4 => omega
  case c5 => simp; omega
  intro v' w2 ho1 hg1 _
  refine h v' w2 ho1 ?_ ?_ (fun k hk => ?_)
  · exact below_grow (hb.alloc hb.size _) (Nat.le_refl _) hg1 (fun k e => by have := (hown.lt k e).1; omega)
  · have := hg1.size
    simp at this
    omega
  · have h1 := hg1.block k (by simp; omega) (fun e => by have := (hown.lt k e.symm).1; omega)
    rw [h1, heap_alloc_old wr _ (by omega)]
theorem box_far {W W' : World} {b : Nat} {cs : Array Value} (h : Box W b cs) {B : Nat} (hB : b < B) (hk : ∀ k, k < B → W'.heap[k]? = W.heap[k]?) : Box W' b cs := (hk b hB).trans h
theorem own_set {w : World} {B : Nat} {e : TypeId} {z : Nat} {v : Value} {n : Nat} {xs : List Value} (h : w.ownsRow B e z v n xs) (p : Addr) (u : Value) (hp : p.block < B) : (w.setCell p u).ownsRow B e z v n xs := by
  rcases h with ⟨h1, h2 | ⟨g, cap, cur, e1, e2, e3, e4⟩⟩
  · exact ⟨h1, .inl h2⟩
  · exact ⟨h1, .inr ⟨g, cap, cur, e1, e2, (heap_setCell_other w p g u (by omega)).trans e3, e4⟩⟩
end Go.Proofs.YthafbdkjpgeopaaDoor
