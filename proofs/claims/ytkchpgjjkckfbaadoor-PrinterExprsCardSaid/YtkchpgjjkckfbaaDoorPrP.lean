/- Plain words of the printer: an expression as it is handed in, what its text is, whether it may be. -/
import Derived.Test.YtkchpgjjkckfbaaDoorPrSho
import Derived.Test.YtkchpgjjkckfbaaDoorPrNm
import Derived.Test.YtkchpgjjkckfbaaDoorLxKey
set_option linter.unusedVariables false
set_option linter.unusedSimpArgs false
namespace Go.Proofs.YtkchpgjjkckfbaaDoor
open Go.RowKit

/-- A value as it is handed in. -/
structure VX where
  k : Int
  b : Bool
  n : Int
  s : ByteArray
  A : Option Addr
  p : List Int
  c : Nat
def VX.zero : VX := ⟨0, false, 0, ⟨#[]⟩, none, [], 0⟩
def VX.cells (v : VX) : List Value := [.int .i64 v.k, .bool v.b, .int .i64 v.n, .string v.s, .slice v.A v.p.length v.c]
/-- An expression as it is handed in. -/
inductive XD where
  | mk (op : Int) (A : Option Addr) (ks : List XD) (c : Nat) (nm pr : ByteArray) (v : VX)
namespace XD
def op : XD → Int | mk o _ _ _ _ _ _ => o
def A : XD → Option Addr | mk _ a _ _ _ _ _ => a
def ks : XD → List XD | mk _ _ l _ _ _ _ => l
def c : XD → Nat | mk _ _ _ n _ _ _ => n
def nm : XD → ByteArray | mk _ _ _ _ s _ _ => s
def pr : XD → ByteArray | mk _ _ _ _ _ s _ => s
def v : XD → VX | mk _ _ _ _ _ _ u => u
def zero : XD := mk 0 none [] 0 ⟨#[]⟩ ⟨#[]⟩ VX.zero
def cells (x : XD) : List Value := .int .i64 x.op :: .slice x.A x.ks.length x.c :: .string x.nm :: .string x.pr :: x.v.cells
end XD
/-- What an Op is written with. -/
structure Shp where
  lvl : Int
  asks : List Int
  ahead : List UInt8
  sign : List UInt8
  behind : List UInt8
def shpD (op : Int) : Option Shp :=
  if op = 1 then some ⟨8, [], [], [], []⟩
  else if op = 2 then some ⟨8, [], [], [], []⟩
  else if op = 3 then some ⟨8, [], [], [], []⟩
  else if op = 4 then some ⟨1, [1, 2], [], [32, 79, 82, 32], []⟩
  else if op = 5 then some ⟨2, [2, 3], [], [32, 65, 78, 68, 32], []⟩
  else if op = 6 then some ⟨4, [5, 5], [], [32, 61, 32], []⟩
  else if op = 7 then some ⟨4, [5, 5], [], [32, 60, 62, 32], []⟩
  else if op = 8 then some ⟨4, [5, 5], [], [32, 60, 32], []⟩
  else if op = 9 then some ⟨4, [5, 5], [], [32, 60, 61, 32], []⟩
  else if op = 10 then some ⟨4, [5, 5], [], [32, 62, 32], []⟩
  else if op = 11 then some ⟨4, [5, 5], [], [32, 62, 61, 32], []⟩
  else if op = 12 then some ⟨5, [5, 6], [], [32, 43, 32], []⟩
  else if op = 13 then some ⟨5, [5, 6], [], [32, 45, 32], []⟩
  else if op = 14 then some ⟨6, [6, 7], [], [32, 42, 32], []⟩
  else if op = 15 then some ⟨6, [6, 7], [], [32, 47, 32], []⟩
  else if op = 16 then some ⟨6, [6, 7], [], [32, 37, 32], []⟩
  else if op = 17 then some ⟨3, [3], [78, 79, 84, 32], [], []⟩
  else if op = 18 then some ⟨7, [7], [45], [], []⟩
  else if op = 19 then some ⟨4, [5], [], [], [32, 73, 83, 32, 78, 85, 76, 76]⟩
  else if op = 20 then some ⟨4, [5], [], [], [32, 73, 83, 32, 78, 79, 84, 32, 78, 85, 76, 76]⟩
  else if op = 21 then some ⟨8, [1], [76, 69, 78, 71, 84, 72, 40], [], [41]⟩
  else if op = 22 then some ⟨8, [1], [67, 79, 85, 78, 84, 40], [], [41]⟩
  else if op = 23 then some ⟨8, [1], [83, 85, 77, 40], [], [41]⟩
  else if op = 24 then some ⟨8, [1], [77, 73, 78, 40], [], [41]⟩
  else if op = 25 then some ⟨8, [1], [77, 65, 88, 40], [], [41]⟩
  else if op = 26 then some ⟨8, [], [67, 79, 85, 78, 84, 40, 42], [], [41]⟩
  else none
/-- The level of an Op; of none: 0. -/
def lvlD (op : Int) : Int := match shpD op with | none => 0 | some s => s.lvl
/-- Is a text a name, and no key? -/
def namedB (s : ByteArray) : Bool := gnameB s && (keyL s.data.toList).isEmpty
def noneB (v : VX) : Bool := rightB v.k v.b v.n v.s v.p && decide (v.k = 0)
/-- Has an expression just the fields of its Op? -/
def plainB (op : Int) (nm pr : ByteArray) (v : VX) : Bool :=
  if op = 1 then decide (nm.size = 0) && decide (pr.size = 0) && rightB v.k v.b v.n v.s v.p && decide (v.k ≤ 3) && !(decide (v.k = 2) && decide (v.n < 0))
  else if op = 2 then noneB v && namedB nm && decide (pr.size = 0)
  else if op = 3 then noneB v && namedB nm && namedB pr
  else noneB v && decide (nm.size = 0) && decide (pr.size = 0)
/-- Is it one deeper behind this Op? -/
def deepB (op : Int) : Bool := decide (op = 17) || decide (op = 18) || decide (21 ≤ op)
def deepD (op : Int) (d : Nat) : Nat := if deepB op then d + 1 else d
/-- How a value is written in a query. -/
def litL (v : VX) : List UInt8 :=
  if v.k = 0 then [78, 85, 76, 76] else if v.k = 1 then (if v.b then [84, 82, 85, 69] else [70, 65, 76, 83, 69]) else showQ v.k v.b v.n v.s
def coreX (op : Int) (nm pr : ByteArray) (v : VX) : List UInt8 :=
  if op = 1 then litL v else if op = 2 then nm.data.toList else if op = 3 then nm.data.toList ++ (46 :: pr.data.toList) else []
/-- May an expression be told, so deep? (by its recursor) -/
def okF (op : Int) (A : Option Addr) (ks : List XD) (c : Nat) (nm pr : ByteArray) (v : VX) (kids : List Int → Nat → Bool) (d : Nat) : Bool :=
  match shpD op with
  | none => false
  | some s => decide (ks.length = s.asks.length) && plainB op nm pr v && decide (deepD op d ≤ 50) && kids s.asks (deepD op d)
def okC (k : XD) (r : List XD) (one : Nat → Bool) (rest : List Int → Nat → Bool) (ak : List Int) (d : Nat) : Bool :=
  (if ak.headD 0 ≤ lvlD k.op then one d else decide (d < 50) && one (d + 1)) && rest ak.tail d
noncomputable def okX (x : XD) : Nat → Bool := XD.rec (motive_1 := fun _ => Nat → Bool) (motive_2 := fun _ => List Int → Nat → Bool) okF (fun _ _ => true) okC x
noncomputable def okK (l : List XD) : List Int → Nat → Bool := XD.rec_1 (motive_1 := fun _ => Nat → Bool) (motive_2 := fun _ => List Int → Nat → Bool) okF (fun _ _ => true) okC l
theorem okX_mk (op : Int) (A : Option Addr) (ks : List XD) (c : Nat) (nm pr : ByteArray) (v : VX) (d : Nat) : okX (.mk op A ks c nm pr v) d = okF op A ks c nm pr v (okK ks) d := rfl
theorem okK_nil (ak : List Int) (d : Nat) : okK [] ak d = true := rfl
theorem okK_cons (k : XD) (r : List XD) (ak : List Int) (d : Nat) : okK (k :: r) ak d = ((if ak.headD 0 ≤ lvlD k.op then okX k d else decide (d < 50) && okX k (d + 1)) && okK r ak.tail d) := rfl
/-- Its text. -/
def textF (op : Int) (A : Option Addr) (ks : List XD) (c : Nat) (nm pr : ByteArray) (v : VX) (kids : List Int → List UInt8 → Bool → List UInt8) : List UInt8 :=
  match shpD op with
  | none => []
  | some s => s.ahead ++ (coreX op nm pr v ++ (kids s.asks s.sign true ++ s.behind))
def textC (k : XD) (r : List XD) (one : List UInt8) (rest : List Int → List UInt8 → Bool → List UInt8) (ak : List Int) (sg : List UInt8) (first : Bool) : List UInt8 :=
  (if first then [] else sg) ++ ((if ak.headD 0 ≤ lvlD k.op then one else 40 :: (one ++ [41])) ++ rest ak.tail sg false)
noncomputable def textX (x : XD) : List UInt8 := XD.rec (motive_1 := fun _ => List UInt8) (motive_2 := fun _ => List Int → List UInt8 → Bool → List UInt8) textF (fun _ _ _ => []) textC x
noncomputable def textK (l : List XD) : List Int → List UInt8 → Bool → List UInt8 := XD.rec_1 (motive_1 := fun _ => List UInt8) (motive_2 := fun _ => List Int → List UInt8 → Bool → List UInt8) textF (fun _ _ _ => []) textC l
theorem textX_mk (op : Int) (A : Option Addr) (ks : List XD) (c : Nat) (nm pr : ByteArray) (v : VX) : textX (.mk op A ks c nm pr v) = textF op A ks c nm pr v (textK ks) := rfl
theorem textK_nil (ak : List Int) (sg : List UInt8) (f : Bool) : textK [] ak sg f = [] := rfl
theorem textK_cons (k : XD) (r : List XD) (ak : List Int) (sg : List UInt8) (f : Bool) : textK (k :: r) ak sg f = (if f then [] else sg) ++ ((if ak.headD 0 ≤ lvlD k.op then textX k else 40 :: (textX k ++ [41])) ++ textK r ak.tail sg false) := rfl
/-- What lies in a buffer that takes no more when it is longer than a query may be. -/
def CutT (T bs : List UInt8) : Prop := if T.length ≤ 4096 then bs = T else 4096 < bs.length
theorem CutT.say {T bs : List UInt8} (h : CutT T bs) (s : List UInt8) : CutT (T ++ s) (if bs.length ≤ 4096 then bs ++ s else bs) := by
  unfold CutT at *
  by_cases ht : T.length ≤ 4096
  · rw [if_pos ht] at h
    subst h
    rw [if_pos ht]
    by_cases h2 : (bs ++ s).length ≤ 4096
    · rw [if_pos h2]
    · rw [if_neg h2]
      omega
  · rw [if_neg ht] at h
    rw [if_neg (by rw [List.length_append]; omega), if_neg (by omega)]
    exact h
theorem CutT.nil : CutT [] [] := by simp [CutT]
theorem CutT.more {T bs : List UInt8} (h : CutT T bs) (ht : 4096 < T.length) : 4096 < bs.length := by
  unfold CutT at h
  rwa [if_neg (by omega)] at h
theorem CutT.eq {T bs : List UInt8} (h : CutT T bs) (ht : T.length ≤ 4096) : bs = T := by
  unfold CutT at h
  rwa [if_pos ht] at h
/-- Two says are one. -/
theorem CutT.over {T bs : List UInt8} (h : CutT T bs) (s : List UInt8) (hb : 4096 < bs.length) : CutT (T ++ s) bs := by
  have := h.say s
  rwa [if_neg (by omega)] at this
/-- An expression that can be read. -/
inductive ReadsXD (w : World) : XD → Prop
  | mk {op : Int} {A : Option Addr} {ks : List XD} {c : Nat} {nm pr : ByteArray} {v : VX} (hop : -9223372036854775808 ≤ op ∧ op ≤ 9223372036854775807)
      (hlen : ks.length ≤ 9223372036854775807) (hnm : nm.size ≤ 140737488351232) (hpr : pr.size ≤ 140737488351232) (hs : v.s.size ≤ 140737488351232)
      (hk : -9223372036854775808 ≤ v.k ∧ v.k ≤ 9223372036854775807) (hn : -9223372036854775808 ≤ v.n ∧ v.n ≤ 9223372036854775807) (hp : ReadsI w v.A v.p)
      (hrow : ∀ j, j < ks.length → ∃ a, A = some a ∧ (a.add (j * 9)).block < w.heap.size ∧ (a.add (j * 9)).spot = none ∧ ∀ i, i < 9 → w.cell? ⟨(a.add (j * 9)).block, (a.add (j * 9)).off + i, none⟩ = ((ks.getD j XD.zero).cells)[i]?)
      (hkids : ∀ k, k ∈ ks → ReadsXD w k) : ReadsXD w (.mk op A ks c nm pr v)
theorem ReadsXD.keep {w w1 : World} (hb : Below w.heap.size w w1) : ∀ {x : XD}, ReadsXD w x → ReadsXD w1 x := by
  intro x h
  induction h with
  | mk hop hlen hnm hpr hs hk hn hp hrow hkids ih =>
    refine .mk hop hlen hnm hpr hs hk hn (hp.below hb) (fun j hj => ?_) ih
    obtain ⟨a, e, h1, h2, h3⟩ := hrow j hj
    exact ⟨a, e, Nat.lt_of_lt_of_le h1 hb.size, h2, fun i hi => (hb.cell (p := ⟨(a.add (j * 9)).block, (a.add (j * 9)).off + i, none⟩) h1).trans (h3 i hi)⟩
end Go.Proofs.YtkchpgjjkckfbaaDoor
