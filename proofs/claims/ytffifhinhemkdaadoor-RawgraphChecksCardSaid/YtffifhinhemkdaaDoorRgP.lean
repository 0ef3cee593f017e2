/- Types as they are declared: plain words; maps as they hold rows. -/
import Derived.Test.YtffifhinhemkdaaDoorRgHead
import Derived.Maps.Views
set_option linter.unusedVariables false
set_option linter.unusedSimpArgs false
namespace Go.Proofs.YtffifhinhemkdaaDoor
open Go.RowKit Go.Maps

/-- A map that holds a row's things by their keys, the last one of each. -/
def mapD {α : Type} (key : α → List UInt8) (val : α → DataW Unit) (l : List α) : DataW Unit := l.foldl (fun D x => D.put (.string (key x)) (val x)) (.map [])
section
variable {α : Type} (key : α → List UInt8) (val : α → DataW Unit)
theorem mapD_snoc (l : List α) (x : α) : mapD key val (l ++ [x]) = (mapD key val l).put (.string (key x)) (val x) := by rw [mapD, mapD, List.foldl_append]; rfl
theorem mapD_isMap (l : List α) : IsMap (mapD key val l) := by
  have h : ∀ (l : List α) (D : DataW Unit), IsMap D → IsMap (l.foldl (fun D x => D.put (.string (key x)) (val x)) D) := by
    intro l
    induction l with
    | nil => intro D h; exact h
    | cons x r ih => intro D h; exact ih _ (h.put _ _)
  exact h l _ isMap_empty
theorem mapD_has : ∀ (n : Nat) (l : List α) (t : List UInt8), l.length = n → Maps.has (mapD key val l) (.string t) = decide (t ∈ l.map key)
  | 0, l, t, h => by
    obtain rfl : l = [] := List.length_eq_zero_iff.1 h
    rfl
  | n + 1, l, t, h => by
    rcases List.eq_nil_or_concat l with rfl | ⟨r, u, rfl⟩
    · simp at h
    · rw [List.concat_eq_append] at h ⊢
      rw [mapD_snoc]
      by_cases hu : t = key u
      · subst hu
        rw [has_put_same (mapD_isMap key val r) (by trivial)]
        simp
      · rw [has_put_other (by intro e; cases e; exact hu rfl), mapD_has n r t (by simpa using h)]
        simp [hu]
theorem mapD_no : ∀ (n : Nat) (l : List α) (t : List UInt8) (z : DataW Unit), l.length = n → ¬ t ∈ l.map key → (mapD key val l).atKey (.string t) z = z
  | 0, l, t, z, h, _ => by
    obtain rfl : l = [] := List.length_eq_zero_iff.1 h
    rfl
  | n + 1, l, t, z, h, hn => by
    rcases List.eq_nil_or_concat l with rfl | ⟨r, u, rfl⟩
    · simp at h
    · rw [List.concat_eq_append] at h hn ⊢
      rw [List.map_append, List.mem_append, not_or] at hn
      rw [mapD_snoc, atKey_put_other (by intro e; cases e; exact hn.2 (by simp))]
      exact mapD_no n r t z (by simpa using h) hn.1
theorem mapD_yes : ∀ (n : Nat) (l : List α) (t : List UInt8) (z : DataW Unit), l.length = n → t ∈ l.map key → ∃ x ∈ l, key x = t ∧ (mapD key val l).atKey (.string t) z = val x
  | 0, l, t, z, h, hn => by
    obtain rfl : l = [] := List.length_eq_zero_iff.1 h
    cases hn
  | n + 1, l, t, z, h, hn => by
    rcases List.eq_nil_or_concat l with rfl | ⟨r, u, rfl⟩
    · simp at h
    · rw [List.concat_eq_append] at h hn ⊢
      rw [mapD_snoc]
      by_cases hu : t = key u
      · subst hu
        exact ⟨u, by simp, rfl, atKey_put_same (mapD_isMap key val r) (by trivial) _ _⟩
      · rw [atKey_put_other (by intro e; cases e; exact hu rfl)]
        obtain ⟨x, hx, h1, h2⟩ := mapD_yes n r t z (by simpa using h) (by
          rw [List.map_append, List.mem_append] at hn
          rcases hn with hn | hn
          · exact hn
          · simp at hn
            exact absurd hn hu)
        exact ⟨x, List.mem_append.2 (.inl hx), h1, h2⟩
end
/-- A property's declaration; a type's. -/
structure PD where
  n : ByteArray
  k : Int
structure TD where
  s : ByteArray
  A : Option Addr
  ps : List PD
  c : Nat
def PD.zero : PD := ⟨⟨#[]⟩, 0⟩
def TD.zero : TD := ⟨⟨#[]⟩, none, [], 0⟩
def PD.key (p : PD) : List UInt8 := p.n.data.toList
def TD.key (t : TD) : List UInt8 := t.s.data.toList
/-- May a property not be declared so, behind those whose keys are there? -/
def propBad (seen : List (List UInt8)) (p : PD) : Bool := decide (p.key ∈ seen) || (!nameB p.n || (decide (p.k < 1) || decide (3 < p.k)))
def propsBad : List (List UInt8) → List PD → Bool
  | _, [] => false
  | seen, p :: r => propBad seen p || propsBad (seen ++ [p.key]) r
/-- A type's error, at a place, behind those whose labels are there. -/
def typeErr (prev : List (List UInt8)) (i : Nat) (t : TD) : Int :=
  if 64 ≤ i then 2 else if nameB t.s = false then 41 else if t.key ∈ prev then 42 else if 32 < t.ps.length then 2 else if propsBad [] t.ps = true then 43 else 0
/-- The first type that may not be, and why. -/
def declR : List (List UInt8) → Nat → List TD → Option (Nat × Int)
  | _, _, [] => none
  | prev, i, t :: r => if typeErr prev i t = 0 then declR (prev ++ [t.key]) (i + 1) r else some (i, typeErr prev i t)
/-- Two cells that hold a property's declaration. -/
structure HoldsP (W : World) (ad : Addr) (p : PD) : Prop where
  lt : ad.block < W.heap.size
  spot : ad.spot = none
  c0 : W.cell? ad = some (.string p.n)
  c1 : W.cell? ⟨ad.block, ad.off + 1, none⟩ = some (.int .i64 p.k)
structure HoldsT (W : World) (ad : Addr) (t : TD) : Prop where
  lt : ad.block < W.heap.size
  spot : ad.spot = none
  c0 : W.cell? ad = some (.string t.s)
  c1 : W.cell? ⟨ad.block, ad.off + 1, none⟩ = some (.slice t.A t.ps.length t.c)
theorem HoldsP.below {W W' : World} {ad : Addr} {v : PD} (h : HoldsP W ad v) (hb : Below W.heap.size W W') : HoldsP W' ad v :=
  ⟨Nat.lt_of_lt_of_le h.lt hb.size, h.spot, (hb.cell h.lt).trans h.c0, (hb.cell (p := ⟨ad.block, ad.off + 1, none⟩) h.lt).trans h.c1⟩
theorem HoldsT.below {W W' : World} {ad : Addr} {v : TD} (h : HoldsT W ad v) (hb : Below W.heap.size W W') : HoldsT W' ad v :=
  ⟨Nat.lt_of_lt_of_le h.lt hb.size, h.spot, (hb.cell h.lt).trans h.c0, (hb.cell (p := ⟨ad.block, ad.off + 1, none⟩) h.lt).trans h.c1⟩
structure ReadsP (W : World) (A : Option Addr) (ps : List PD) : Prop where
  len : ps.length ≤ 9223372036854775807
  row : ∀ j, j < ps.length → ∃ ad, A = some ad ∧ HoldsP W (ad.add (j * 2)) (ps.getD j PD.zero)
  txt : ∀ p ∈ ps, p.n.size ≤ 9223372036854775807
  num : ∀ p ∈ ps, -9223372036854775808 ≤ p.k ∧ p.k ≤ 9223372036854775807
structure ReadsT (W : World) (A : Option Addr) (ts : List TD) : Prop where
  len : ts.length ≤ 9223372036854775807
  row : ∀ j, j < ts.length → ∃ ad, A = some ad ∧ HoldsT W (ad.add (j * 2)) (ts.getD j TD.zero)
  txt : ∀ t ∈ ts, t.s.size ≤ 9223372036854775807
  props : ∀ t ∈ ts, ReadsP W t.A t.ps
theorem ReadsP.below {W W' : World} {A : Option Addr} {ps : List PD} (h : ReadsP W A ps) (hb : Below W.heap.size W W') : ReadsP W' A ps :=
  ⟨h.len, fun j hj => by
    obtain ⟨ad, e, h2⟩ := h.row j hj
    exact ⟨ad, e, h2.below hb⟩, h.txt, h.num⟩
theorem ReadsT.below {W W' : World} {A : Option Addr} {ts : List TD} (h : ReadsT W A ts) (hb : Below W.heap.size W W') : ReadsT W' A ts :=
  ⟨h.len, fun j hj => by
    obtain ⟨ad, e, h2⟩ := h.row j hj
    exact ⟨ad, e, h2.below hb⟩, h.txt, fun t ht => (h.props t ht).below hb⟩
/-- A map of a type's properties. -/
def KindsIs (W : World) (b : Nat) (ps : List PD) : Prop := W.ownsMap Tryd.prog 9 (plainElem Tryd.prog 80) b ps.length (mapD PD.key (fun p => .lit (.int .i64 p.k)) ps)
/-- A map of types, each by its label, with its properties' map. -/
structure TypesIs (W : World) (B b : Nat) (l : List (TD × Nat)) : Prop where
  map : W.ownsMap Tryd.prog 9 mapElem b l.length (mapD (fun x : TD × Nat => x.1.key) (fun x => .lit (.int .i64 (x.2 : Int))) l)
  base : B ≤ b
  kinds : ∀ x ∈ l, KindsIs W x.2 x.1.ps ∧ b < x.2
theorem KindsIs.below {W W' : World} {b : Nat} {ps : List PD} (h : KindsIs W b ps) (hb : Below W.heap.size W W') : KindsIs W' b ps := ownsMap_below h hb
theorem TypesIs.below {W W' : World} {B b : Nat} {l : List (TD × Nat)} (h : TypesIs W B b l) (hb : Below W.heap.size W W') : TypesIs W' B b l :=
  ⟨ownsMap_below h.map hb, h.base, fun x hx => ⟨(h.kinds x hx).1.below hb, (h.kinds x hx).2⟩⟩
/-- What declared answers. -/
def DeclA (ts : List TD) (w : World) (e : Ending) (w' : World) : Prop :=
  (match declR [] 0 ts with
    | none => ∃ b l, e = .returned (.tuple #[.map (some b), .int .i64 0, .int .i64 0]) ∧ l.map Prod.fst = ts ∧ TypesIs w' w.heap.size b l
    | some (i, er) => e = .returned (.tuple #[.map none, .int .i64 (i : Int), .int .i64 er])) ∧ Below w.heap.size w w'
end Go.Proofs.YtffifhinhemkdaaDoor
