/- Properties as they are handed in: plain words; sets of keys as maps into truths. -/
import Derived.Test.YtffifhinhemkdaaDoorRgDec
import Derived.Maps.OwnSet
set_option linter.unusedVariables false
set_option linter.unusedSimpArgs false
namespace Go.Proofs.YtffifhinhemkdaaDoor
open Go.RowKit Go.Maps

theorem lawI : Keyed Tryd.prog 2 := int_keyed Tryd.underlying2
theorem zero_bool (W : World) : (zeroValue 4).run Tryd.prog W = .ok (.bool false) W := by kernel_rfl
theorem plain_bool_inv {P : Program} {e : TypeId} (he : P.underlying e = some .bool) {v : Value} {z : DataW Unit × List MemPlace} (h : plainElem P e v = some z) : ∃ r, v = .bool r ∧ z = (.lit (.bool r), []) := by
  unfold plainElem at h
  rw [he] at h
  cases v <;> simp at h
  exact ⟨_, rfl, h.symm⟩
/-- What a look into a set of keys answers: an equation that the walk takes as it stands. -/
theorem look_set {k t : TypeId} {W : World} {b n : Nat} {D : DataW Unit} (h : W.ownsMap Tryd.prog k (plainElem Tryd.prog 4) b n D) (K : Keyed Tryd.prog k) (ht : Tryd.prog.underlying t = some (.map k 4)) {key : Value} {kl : Lit} (hkey : keyOf Tryd.prog k key = some kl) {r : Bool} (hat : D.atKey kl (.lit (.bool false)) = .lit (.bool r)) : (Instr.lookup t (.map (some b)) key false).run Tryd.prog W = .ok (.bool r) W := by
  obtain ⟨v, ps, hrun, hv⟩ := h.lookup K ht (zero_bool W) (zd := .lit (.bool false)) (zp := []) (plainElem_bool Tryd.underlying4 false) hkey
  rw [hat] at hv
  obtain ⟨r', rfl, hz⟩ := plain_bool_inv Tryd.underlying4 hv
  cases hz
  exact hrun
/-- Texts as a set. -/
def setS (l : List (List UInt8)) : DataW Unit := mapD id (fun _ => .lit (.bool true)) l
theorem setS_snoc (l : List (List UInt8)) (t : List UInt8) : setS (l ++ [t]) = (setS l).put (.string t) (.lit (.bool true)) := mapD_snoc _ _ _ _
theorem setS_at (l : List (List UInt8)) (t : List UInt8) : (setS l).atKey (.string t) (.lit (.bool false)) = .lit (.bool (decide (t ∈ l))) := by
  by_cases h : t ∈ l
  · obtain ⟨x, _, _, h3⟩ := mapD_yes id (fun _ => .lit (.bool true)) l.length l t (.lit (.bool false)) rfl (by rw [List.map_id]; exact h)
    rw [decide_eq_true h]
    exact h3
  · rw [decide_eq_false h]
    exact mapD_no id (fun _ => .lit (.bool true)) l.length l t (.lit (.bool false)) rfl (by rw [List.map_id]; exact h)
/-- Numbers as a set. -/
def setI (l : List Int) : DataW Unit := l.foldl (fun D x => D.put (.int .i64 x) (.lit (.bool true))) (.map [])
theorem setI_snoc (l : List Int) (x : Int) : setI (l ++ [x]) = (setI l).put (.int .i64 x) (.lit (.bool true)) := by rw [setI, setI, List.foldl_append]; rfl
theorem setI_isMap (l : List Int) : IsMap (setI l) := by
  have h : ∀ (l : List Int) (D : DataW Unit), IsMap D → IsMap (l.foldl (fun D x => D.put (.int .i64 x) (.lit (.bool true))) D) := by
    intro l
    induction l with
    | nil => intro D h; exact h
    | cons x r ih => intro D h; exact ih _ (h.put _ _)
  exact h l _ isMap_empty
theorem setI_at : ∀ (n : Nat) (l : List Int) (t : Int), l.length = n → (setI l).atKey (.int .i64 t) (.lit (.bool false)) = .lit (.bool (decide (t ∈ l)))
  | 0, l, t, h => by
    obtain rfl : l = [] := List.length_eq_zero_iff.1 h
    rfl
  | n + 1, l, t, h => by
    rcases List.eq_nil_or_concat l with rfl | ⟨r, u, rfl⟩
    · simp at h
    · rw [List.concat_eq_append] at h ⊢
      rw [setI_snoc]
      by_cases hu : t = u
      · subst hu
        rw [atKey_put_same (setI_isMap r) (by trivial)]
        simp
      · rw [atKey_put_other (by intro e; cases e; exact hu rfl), setI_at n r t (by simpa using h)]
        simp [hu]
/-- A value; a property that has it. -/
structure VD where
  k : Int
  b : Bool
  n : Int
  s : ByteArray
  A : Option Addr
  p : List Int
  c : Nat
structure QD where
  m : ByteArray
  v : VD
def QD.zero : QD := ⟨⟨#[]⟩, ⟨0, false, 0, ⟨#[]⟩, none, [], 0⟩⟩
def QD.key (q : QD) : List UInt8 := q.m.data.toList
def VD.right (v : VD) : Bool := rightB v.k v.b v.n v.s v.p
/-- The kind that was declared for a key. -/
def kindOf (ks : List PD) (t : List UInt8) : Int :=
  match (mapD PD.key (fun p => .lit (.int .i64 p.k)) ks).atKey (.string t) (.lit (.int .i64 0)) with
  | .lit (.int _ c) => c
  | _ => 0
/-- May a property be, of those that were declared, behind those whose keys are there? -/
def okQ (ks : List PD) (seen : List (List UInt8)) (q : QD) : Bool := decide (q.key ∈ ks.map PD.key) && (!decide (q.key ∈ seen) && (q.v.right && (decide (q.v.k = 0) || decide (q.v.k = kindOf ks q.key))))
def fitsB (ks : List PD) : List (List UInt8) → List QD → Bool
  | _, [] => true
  | seen, q :: r => okQ ks seen q && fitsB ks (seen ++ [q.key]) r
theorem fitsB_at (ks : List PD) (qs : List QD) (j : Nat) (h : j < qs.length) : fitsB ks ((qs.take j).map QD.key) (qs.drop j) = (okQ ks ((qs.take j).map QD.key) (qs.getD j QD.zero) && fitsB ks ((qs.take (j + 1)).map QD.key) (qs.drop (j + 1))) := by
  rw [drop_cons qs QD.zero j h, fitsB, take_getD qs QD.zero j h, List.map_append]
  rfl
structure HoldsQ (W : World) (ad : Addr) (q : QD) : Prop where
  lt : ad.block < W.heap.size
  spot : ad.spot = none
  c0 : W.cell? ad = some (.string q.m)
  c1 : W.cell? ⟨ad.block, ad.off + 1, none⟩ = some (.int .i64 q.v.k)
  c2 : W.cell? ⟨ad.block, ad.off + 2, none⟩ = some (.bool q.v.b)
  c3 : W.cell? ⟨ad.block, ad.off + 3, none⟩ = some (.int .i64 q.v.n)
  c4 : W.cell? ⟨ad.block, ad.off + 4, none⟩ = some (.string q.v.s)
  c5 : W.cell? ⟨ad.block, ad.off + 5, none⟩ = some (.slice q.v.A q.v.p.length q.v.c)
theorem HoldsQ.below {W W' : World} {ad : Addr} {v : QD} (h : HoldsQ W ad v) (hb : Below W.heap.size W W') : HoldsQ W' ad v :=
  ⟨Nat.lt_of_lt_of_le h.lt hb.size, h.spot, (hb.cell h.lt).trans h.c0, (hb.cell (p := ⟨ad.block, ad.off + 1, none⟩) h.lt).trans h.c1, (hb.cell (p := ⟨ad.block, ad.off + 2, none⟩) h.lt).trans h.c2, (hb.cell (p := ⟨ad.block, ad.off + 3, none⟩) h.lt).trans h.c3, (hb.cell (p := ⟨ad.block, ad.off + 4, none⟩) h.lt).trans h.c4, (hb.cell (p := ⟨ad.block, ad.off + 5, none⟩) h.lt).trans h.c5⟩
structure ReadsQ (W : World) (A : Option Addr) (qs : List QD) : Prop where
  len : qs.length ≤ 9223372036854775807
  row : ∀ j, j < qs.length → ∃ ad, A = some ad ∧ HoldsQ W (ad.add (j * 6)) (qs.getD j QD.zero)
  txt : ∀ q ∈ qs, q.m.size ≤ 9223372036854775807 ∧ q.v.s.size ≤ 9223372036854775807
  num : ∀ q ∈ qs, -9223372036854775808 ≤ q.v.k ∧ q.v.k ≤ 9223372036854775807
  path : ∀ q ∈ qs, ReadsI W q.v.A q.v.p
theorem ReadsQ.below {W W' : World} {A : Option Addr} {ps : List QD} (h : ReadsQ W A ps) (hb : Below W.heap.size W W') : ReadsQ W' A ps :=
  ⟨h.len, fun j hj => by
    obtain ⟨ad, e, h2⟩ := h.row j hj
    exact ⟨ad, e, h2.below hb⟩, h.txt, h.num, fun q hq => (h.path q hq).below hb⟩
/-- A map of texts that were there. -/
def SeenIs (W : World) (b : Nat) (l : List (List UInt8)) : Prop := W.ownsMap Tryd.prog 9 (plainElem Tryd.prog 4) b l.length (setS l)
theorem SeenIs.below {W W' : World} {b : Nat} {l : List (List UInt8)} (h : SeenIs W b l) (hb : Below W.heap.size W W') : SeenIs W' b l := ownsMap_below h hb
/-- A map of numbers that were there. -/
def IdsIs (W : World) (b : Nat) (l : List Int) : Prop := W.ownsMap Tryd.prog 2 (plainElem Tryd.prog 4) b l.length (setI l)
theorem IdsIs.below {W W' : World} {b : Nat} {l : List Int} (h : IdsIs W b l) (hb : Below W.heap.size W W') : IdsIs W' b l := ownsMap_below h hb
/-- What a look for a kind answers. -/
theorem look_kind {W : World} {b : Nat} {ks : List PD} (h : KindsIs W b ks) (s : ByteArray) (hs : s.size ≤ 9223372036854775807) :
    (Instr.lookup 79 (.map (some b)) (.string s) true).run Tryd.prog W = .ok (.tuple #[.int .i64 (kindOf ks s.data.toList), .bool (decide (s.data.toList ∈ ks.map PD.key))]) W := by
  have hkey : keyOf Tryd.prog 9 (.string s) = some (.string s.data.toList) := WideMaps.keyOf_string_mk Tryd.underlying9 (by unfold maxLen; omega)
  obtain ⟨v, ps, hrun, hv⟩ := World.ownsMap.look_ok (t := 79) (e := 80) h law Tryd.underlying79 (zero_kind W) (plainElem_int Tryd.underlying80 (by decide)) hkey
  obtain ⟨c, rfl, hc, _⟩ := plainElem_int_inv Tryd.underlying80 hv
  have hc1 := congrArg Prod.fst hc
  have hk : kindOf ks s.data.toList = c := by
    unfold kindOf
    simp only at hc1
    rw [hc1]
  rw [hk, ← mapD_has PD.key (fun p => .lit (.int .i64 p.k)) ks.length ks s.data.toList rfl]
  exact hrun
end Go.Proofs.YtffifhinhemkdaaDoor
