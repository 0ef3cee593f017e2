/- Rows of declared properties, of types, of property values that the program has made. -/
import Derived.Test.YtffifhinhemkdaaDoorRgAppR
set_option linter.unusedVariables false
set_option linter.unusedSimpArgs false
namespace Go.Proofs.YtffifhinhemkdaaDoor
open Go.RowKit

theorem block_add (p : Addr) (m : Nat) : (p.add m).block = p.block := by
  unfold Addr.add
  split <;> rfl
theorem cellsPD_len (x : PD) : (cellsPD x).length = 2 := rfl
theorem readsP_own {W : World} {B : Nat} {v : Value} {l : List PD} (h : W.ownsRow B 82 2 v l.length (l.flatMap cellsPD)) (hl : l.length ≤ 9223372036854775807) (hg : ∀ x ∈ l, goodPD W x) : ∃ A c, v = .slice A l.length c ∧ ReadsP W A l := by
  obtain ⟨A, c, rfl, hrow⟩ := own_rows cellsPD 2 PD.zero cellsPD_len h (by decide)
  exact ⟨A, c, rfl, hl, fun j hj => by
    obtain ⟨a, e, h1, h2, h3⟩ := hrow j hj
    have e0 : (⟨(a.add (j * 2)).block, (a.add (j * 2)).off + 0, none⟩ : Addr) = a.add (j * 2) := by
      rw [← h2]
      rfl
    have r0 := h3 0 (by omega)
    rw [e0] at r0
    exact ⟨a, e, h1, h2, r0, h3 1 (by omega)⟩, fun x hx => (hg x hx).1, fun x hx => (hg x hx).2⟩
/-- The same, its block told. -/
theorem readsP_own_at {W : World} {B : Nat} {v : Value} {l : List PD} (h : W.ownsRow B 82 2 v l.length (l.flatMap cellsPD)) (hl : l.length ≤ 9223372036854775807) (hg : ∀ x ∈ l, goodPD W x) : ∃ A c, v = .slice A l.length c ∧ ReadsP W A l ∧ ∀ ad, A = some ad → B ≤ ad.block ∧ ad.block < W.heap.size := by
  obtain ⟨A, c, rfl, hr⟩ := readsP_own h hl hg
  refine ⟨A, c, rfl, hr, fun ad e => ?_⟩
  obtain ⟨_, ⟨h1, _⟩ | ⟨g, cap, cur, h1, hg1, hh, _⟩⟩ := h
  · rw [e] at h1
    cases h1
  · rw [e] at h1
    cases h1
    exact ⟨hg1, (Array.getElem?_eq_some_iff.1 hh).1⟩
theorem newsP {W : World} {ad : Addr} {es : List PD} (h : ReadsP W (some ad) es) : ∀ j u, (es.flatMap cellsPD)[j]? = some u → W.cell? (ad.add j) = some u := by
  intro j u hu
  obtain ⟨hlt, _⟩ := List.getElem?_eq_some_iff.1 hu
  rw [flat_len cellsPD 2 cellsPD_len] at hlt
  have hq : j / 2 < es.length := by omega
  have hj : j = j / 2 * 2 + j % 2 := by omega
  have hi : j % 2 < 2 := by omega
  obtain ⟨a0, e0, hh0⟩ := h.row 0 (by omega)
  cases e0
  have hs := spot_of_add _ _ hh0.spot
  obtain ⟨a, e, hh⟩ := h.row (j / 2) hq
  cases e
  have e1 : ad.add j = ⟨ad.block, ad.off + j, none⟩ := add_cell _ _ hs
  have e2 : ad.add (j / 2 * 2) = ⟨ad.block, ad.off + j / 2 * 2, none⟩ := add_cell _ _ hs
  have hx := flat_at cellsPD 2 PD.zero cellsPD_len es (j / 2) (j % 2) hq hi
  rw [← hj, hu] at hx
  have c0 := hh.c0
  have c1 := hh.c1
  rw [e2] at c0 c1
  rw [e1]
  have ho : ad.off + j = ad.off + j / 2 * 2 + j % 2 := by omega
  rw [ho]
  generalize j % 2 = i at hx hi
  rw [hx]
  match i, hi with
  | 0, _ => exact c0
  | 1, _ => exact c1
theorem oneP (es : List PD) : ∀ u ∈ es.flatMap cellsPD, u.oneCell' = true := by
  intro u hu
  obtain ⟨x, _, hx⟩ := List.mem_flatMap.1 hu
  simp only [cellsPD, List.mem_cons, List.not_mem_nil, or_false] at hx
  rcases hx with rfl | rfl <;> rfl
theorem info_pd : (Tryd.prog.info? 82).map (fun i => (i.zero, i.size, i.bytes)) = some (some (.agg #[.string ⟨#[]⟩, .int .i64 0]), 2, 24) := by kernel_rfl
/-- What stays when other blocks turn. -/
theorem ReadsP.keep {W W' : World} {A : Option Addr} {l : List PD} (h : ReadsP W A l) (hk : ∀ ad, A = some ad → l ≠ [] → W'.heap[ad.block]? = W.heap[ad.block]?) (hg : ∀ x ∈ l, goodPD W' x) : ReadsP W' A l :=
  ⟨h.len, fun j hj => by
    obtain ⟨ad, e, hh⟩ := h.row j hj
    have hb := hk ad e (fun e => by rw [e] at hj; cases hj)
    rw [← block_add ad (j * 2)] at hb
    exact ⟨ad, e, lt_cell ((World.cell?_of_block hb).trans hh.c0), hh.spot, (World.cell?_of_block hb).trans hh.c0, (World.cell?_of_block (a := ⟨(ad.add (j * 2)).block, (ad.add (j * 2)).off + 1, none⟩) hb).trans hh.c1⟩, fun x hx => (hg x hx).1, fun x hx => (hg x hx).2⟩
def PBox2 (W : World) (b : Nat) (a : Array Value) : Prop := W.heap[b]? = some (.cells a 82)
theorem PBox2.cells {W : World} {b : Nat} {a : Array Value} (h : PBox2 W b a) (i : Nat) : W.cell? ⟨b, i, none⟩ = a[i]? := by
  unfold World.cell?
  rw [h]
  rfl
theorem own_empty_P (W : World) (B : Nat) (hB : B ≤ W.heap.size) : (W.alloc (.cells #[] 82)).ownsRow B 82 2 (.slice (some ⟨W.heap.size, 0, none⟩) 0 0) 0 [] :=
  ⟨by simp, .inr ⟨W.heap.size, 0, #[], rfl, hB, by simpa using heap_alloc_new W _, Nat.le_refl _, by decide, by simp, by simp⟩⟩
/-- All of a row that came in, put behind an empty row. -/
theorem app_all_P {W : World} {o : Oper} {a : Act} {K : Act → World → Prop} {Q : Exit → Act → World → Prop} (s x : Operand)
    (ho : o.op = .call { callee := .builtin .append, args := #[s, x], argTypes := #[39, 39] }) (B : Nat) (v : Value) (hs : a.eval s = v) (hown : W.ownsRow B 82 2 v 0 [])
    (A : Option Addr) (l : List PD) (n c : Nat) (hn : n = l.length) (hx : a.eval x = .slice A n c) (hA : A = none → c = 0) (hr : ReadsP W A l) (hb : n ≤ 1000000000000) (hB : B ≤ W.heap.size)
    (h : ∀ v' w', w'.ownsRow B 82 2 v' n (l.flatMap cellsPD) → Below B W w' → W.grownBy w' v.ownBlock → K (a.put o.dst v') w') : o.wp Tryd.prog a W K Q := by
  subst hn
  obtain ⟨i, hi, hz, hsz, hby⟩ := info_parts info_pd
  cases A with
  | none =>
    have h0 : l = [] := by
      cases l with
      | nil => rfl
      | cons y r => obtain ⟨ad, e, _⟩ := hr.row 0 (by simp); cases e
    subst h0
    obtain rfl := hA rfl
    have hrun := run_append_owned_none (P := Tryd.prog) (w := W) B 39 o.type 82 i 2 Tryd.underlying39 hi v 0 [] hown
    unfold Oper.wp
    simp only [List.length_nil] at hx
    simp [execOp, ho, resolve, invoke, builtin, hs, hx, hrun, Result.andThen]
    exact h v W hown (Below.refl _ _) (World.grownBy.refl _ _)
  | some ad =>
    have hl := flat_len cellsPD 2 cellsPD_len l
    refine wp_append_own W s x 39 ho B 82 i _ 2 24 Tryd.underlying39 hi hz hsz hby rfl (by decide) v 0 [] hs hown ad l.length c (l.flatMap cellsPD) hx hl (newsP hr) (oneP l) (by unfold maxLen; omega) (by omega) hB (fun v' w' h2 h3 _ => ?_)
    rw [Nat.zero_add, List.nil_append] at h2
    exact h v' w' h2 (grow_below hB h3 (fun k e => (hown.lt k e).1)) h3
theorem app_all_PL {W : World} {ops : Array Oper} {rest : List Oper} {o : Oper} {a : Act} {Q : Exit → Act → World → Prop} (hgd : o.guard = none) (s x : Operand)
    (ho : o.op = .call { callee := .builtin .append, args := #[s, x], argTypes := #[39, 39] }) (B : Nat) (v : Value) (hs : a.eval s = v) (hown : W.ownsRow B 82 2 v 0 [])
    (A : Option Addr) (l : List PD) (n c : Nat) (hn : n = l.length) (hx : a.eval x = .slice A n c) (hA : A = none → c = 0) (hr : ReadsP W A l) (hb : n ≤ 1000000000000) (hB : B ≤ W.heap.size)
    (h : ∀ v' w', w'.ownsRow B 82 2 v' n (l.flatMap cellsPD) → Below B W w' → wpList Tryd.prog ops Q rest (a.put o.dst v') w') : wpList Tryd.prog ops Q (o :: rest) a W :=
  wpList_plain hgd fun _ hK => app_all_P s x ho B v hs hown A l n c hn hx hA hr hb hB (fun v' w' h1 h2 _ => hK _ _ (h v' w' h1 h2))
/-- One record behind a row. -/
theorem app_one_P {W : World} {o : Oper} {a : Act} {K : Act → World → Prop} {Q : Exit → Act → World → Prop} (s x : Operand)
    (ho : o.op = .call { callee := .builtin .append, args := #[s, x], argTypes := #[39, 39] }) (B : Nat) (v : Value) (n : Nat) (xs : List Value) (hs : a.eval s = v) (hown : W.ownsRow B 82 2 v n xs)
    (g : Nat) (e : PD) (hx : a.eval x = .slice (some ⟨g, 0, none⟩) 1 1) (hbox : PBox2 W g (cellsPD e).toArray) (hb : n ≤ 1000000000000) (hB : B ≤ W.heap.size)
    (h : ∀ v' w', w'.ownsRow B 82 2 v' (n + 1) (xs ++ cellsPD e) → Below B W w' → W.grownBy w' v.ownBlock → K (a.put o.dst v') w') : o.wp Tryd.prog a W K Q := by
  obtain ⟨i, hi, hz, hsz, hby⟩ := info_parts info_pd
  refine wp_append_own W s x 39 ho B 82 i _ 2 24 Tryd.underlying39 hi hz hsz hby rfl (by decide) v n xs hs hown ⟨g, 0, none⟩ 1 1 (cellsPD e) hx (by rw [cellsPD_len]) (fun j u hu => ?_) (fun u hu => oneP [e] u (by simpa using hu)) (by unfold maxLen; omega) (by omega) hB (fun v' w' h2 h3 _ => h v' w' h2 (grow_below hB h3 (fun k e => (hown.lt k e).1)) h3)
  rw [add_zero_, hbox.cells j]
  simpa using hu
theorem app_one_PL {W : World} {ops : Array Oper} {rest : List Oper} {o : Oper} {a : Act} {Q : Exit → Act → World → Prop} (hgd : o.guard = none) (s x : Operand)
    (ho : o.op = .call { callee := .builtin .append, args := #[s, x], argTypes := #[39, 39] }) (B : Nat) (v : Value) (n : Nat) (xs : List Value) (hs : a.eval s = v) (hown : W.ownsRow B 82 2 v n xs)
    (g : Nat) (e : PD) (hx : a.eval x = .slice (some ⟨g, 0, none⟩) 1 1) (hbox : PBox2 W g (cellsPD e).toArray) (hb : n ≤ 1000000000000) (hB : B ≤ W.heap.size)
    (h : ∀ v' w', w'.ownsRow B 82 2 v' (n + 1) (xs ++ cellsPD e) → Below B W w' → W.grownBy w' v.ownBlock → wpList Tryd.prog ops Q rest (a.put o.dst v') w') : wpList Tryd.prog ops Q (o :: rest) a W :=
  wpList_plain hgd fun _ hK => app_one_P s x ho B v n xs hs hown g e hx hbox hb hB (fun v' w' h1 h2 h3 => hK _ _ (h v' w' h1 h2 h3))
theorem read_more_P {W : World} {B n : Nat} {v : Value} {l : List PD} {e : PD} (hn : n = l.length) (h : W.ownsRow B 82 2 v (n + 1) (l.flatMap cellsPD ++ cellsPD e)) (hb : n ≤ 1000000000000) (hl : ∀ x ∈ l, goodPD W x) (he : goodPD W e) : ∃ A c, v = .slice A (n + 1) c ∧ ReadsP W A (l ++ [e]) := by
  subst hn
  have hlen : (l ++ [e]).length = l.length + 1 := by simp
  have hfl : (l ++ [e]).flatMap cellsPD = l.flatMap cellsPD ++ cellsPD e := by simp
  rw [← hlen, ← hfl] at h
  obtain ⟨A, c, hv, hr⟩ := readsP_own h (by omega) (fun x hx => by
    rcases List.mem_append.1 hx with hx | hx
    · exact hl x hx
    · obtain rfl : x = e := by simpa using hx
      exact he)
  exact ⟨A, c, by rw [hv, hlen], hr⟩
theorem ReadsP.all {W : World} {A : Option Addr} {l : List PD} (h : ReadsP W A l) : ∀ x ∈ l, goodPD W x := fun x hx => ⟨h.txt x hx, h.num x hx⟩
theorem goodPD.below {W W' : World} {x : PD} (h : goodPD W x) (hb : Below W.heap.size W W') : goodPD W' x := h
theorem cellsTD_len (x : TD) : (cellsTD x).length = 2 := rfl
theorem readsT_own {W : World} {B : Nat} {v : Value} {l : List TD} (h : W.ownsRow B 41 2 v l.length (l.flatMap cellsTD)) (hl : l.length ≤ 9223372036854775807) (hg : ∀ x ∈ l, goodTD W x) : ∃ A c, v = .slice A l.length c ∧ ReadsT W A l := by
  obtain ⟨A, c, rfl, hrow⟩ := own_rows cellsTD 2 TD.zero cellsTD_len h (by decide)
  exact ⟨A, c, rfl, hl, fun j hj => by
    obtain ⟨a, e, h1, h2, h3⟩ := hrow j hj
    have e0 : (⟨(a.add (j * 2)).block, (a.add (j * 2)).off + 0, none⟩ : Addr) = a.add (j * 2) := by
      rw [← h2]
      rfl
    have r0 := h3 0 (by omega)
    rw [e0] at r0
    exact ⟨a, e, h1, h2, r0, h3 1 (by omega)⟩, fun x hx => (hg x hx).1, fun x hx => (hg x hx).2⟩
/-- The same, its block told. -/
theorem readsT_own_at {W : World} {B : Nat} {v : Value} {l : List TD} (h : W.ownsRow B 41 2 v l.length (l.flatMap cellsTD)) (hl : l.length ≤ 9223372036854775807) (hg : ∀ x ∈ l, goodTD W x) : ∃ A c, v = .slice A l.length c ∧ ReadsT W A l ∧ ∀ ad, A = some ad → B ≤ ad.block ∧ ad.block < W.heap.size := by
  obtain ⟨A, c, rfl, hr⟩ := readsT_own h hl hg
  refine ⟨A, c, rfl, hr, fun ad e => ?_⟩
  obtain ⟨_, ⟨h1, _⟩ | ⟨g, cap, cur, h1, hg1, hh, _⟩⟩ := h
  · rw [e] at h1
    cases h1
  · rw [e] at h1
    cases h1
    exact ⟨hg1, (Array.getElem?_eq_some_iff.1 hh).1⟩
theorem newsT {W : World} {ad : Addr} {es : List TD} (h : ReadsT W (some ad) es) : ∀ j u, (es.flatMap cellsTD)[j]? = some u → W.cell? (ad.add j) = some u := by
  intro j u hu
  obtain ⟨hlt, _⟩ := List.getElem?_eq_some_iff.1 hu
  rw [flat_len cellsTD 2 cellsTD_len] at hlt
  have hq : j / 2 < es.length := by omega
  have hj : j = j / 2 * 2 + j % 2 := by omega
  have hi : j % 2 < 2 := by omega
  obtain ⟨a0, e0, hh0⟩ := h.row 0 (by omega)
  cases e0
  have hs := spot_of_add _ _ hh0.spot
  obtain ⟨a, e, hh⟩ := h.row (j / 2) hq
  cases e
  have e1 : ad.add j = ⟨ad.block, ad.off + j, none⟩ := add_cell _ _ hs
  have e2 : ad.add (j / 2 * 2) = ⟨ad.block, ad.off + j / 2 * 2, none⟩ := add_cell _ _ hs
  have hx := flat_at cellsTD 2 TD.zero cellsTD_len es (j / 2) (j % 2) hq hi
  rw [← hj, hu] at hx
  have c0 := hh.c0
  have c1 := hh.c1
  rw [e2] at c0 c1
  rw [e1]
  have ho : ad.off + j = ad.off + j / 2 * 2 + j % 2 := by omega
  rw [ho]
  generalize j % 2 = i at hx hi
  rw [hx]
  match i, hi with
  | 0, _ => exact c0
  | 1, _ => exact c1
theorem oneT (es : List TD) : ∀ u ∈ es.flatMap cellsTD, u.oneCell' = true := by
  intro u hu
  obtain ⟨x, _, hx⟩ := List.mem_flatMap.1 hu
  simp only [cellsTD, List.mem_cons, List.not_mem_nil, or_false] at hx
  rcases hx with rfl | rfl <;> rfl
theorem info_td : (Tryd.prog.info? 41).map (fun i => (i.zero, i.size, i.bytes)) = some (some (.agg #[.string ⟨#[]⟩, .slice none 0 0]), 2, 40) := by kernel_rfl
/-- What stays when other blocks turn. -/
theorem ReadsT.keep {W W' : World} {A : Option Addr} {l : List TD} (h : ReadsT W A l) (hk : ∀ ad, A = some ad → l ≠ [] → W'.heap[ad.block]? = W.heap[ad.block]?) (hg : ∀ x ∈ l, goodTD W' x) : ReadsT W' A l :=
  ⟨h.len, fun j hj => by
    obtain ⟨ad, e, hh⟩ := h.row j hj
    have hb := hk ad e (fun e => by rw [e] at hj; cases hj)
    rw [← block_add ad (j * 2)] at hb
    exact ⟨ad, e, lt_cell ((World.cell?_of_block hb).trans hh.c0), hh.spot, (World.cell?_of_block hb).trans hh.c0, (World.cell?_of_block (a := ⟨(ad.add (j * 2)).block, (ad.add (j * 2)).off + 1, none⟩) hb).trans hh.c1⟩, fun x hx => (hg x hx).1, fun x hx => (hg x hx).2⟩
def TBox2 (W : World) (b : Nat) (a : Array Value) : Prop := W.heap[b]? = some (.cells a 41)
theorem TBox2.cells {W : World} {b : Nat} {a : Array Value} (h : TBox2 W b a) (i : Nat) : W.cell? ⟨b, i, none⟩ = a[i]? := by
  unfold World.cell?
  rw [h]
  rfl
theorem own_empty_T (W : World) (B : Nat) (hB : B ≤ W.heap.size) : (W.alloc (.cells #[] 41)).ownsRow B 41 2 (.slice (some ⟨W.heap.size, 0, none⟩) 0 0) 0 [] :=
  ⟨by simp, .inr ⟨W.heap.size, 0, #[], rfl, hB, by simpa using heap_alloc_new W _, Nat.le_refl _, by decide, by simp, by simp⟩⟩
/-- All of a row that came in, put behind an empty row. -/
theorem app_all_T {W : World} {o : Oper} {a : Act} {K : Act → World → Prop} {Q : Exit → Act → World → Prop} (s x : Operand)
    (ho : o.op = .call { callee := .builtin .append, args := #[s, x], argTypes := #[24, 24] }) (B : Nat) (v : Value) (hs : a.eval s = v) (hown : W.ownsRow B 41 2 v 0 [])
    (A : Option Addr) (l : List TD) (n c : Nat) (hn : n = l.length) (hx : a.eval x = .slice A n c) (hA : A = none → c = 0) (hr : ReadsT W A l) (hb : n ≤ 1000000000000) (hB : B ≤ W.heap.size)
    (h : ∀ v' w', w'.ownsRow B 41 2 v' n (l.flatMap cellsTD) → Below B W w' → W.grownBy w' v.ownBlock → K (a.put o.dst v') w') : o.wp Tryd.prog a W K Q := by
  subst hn
  obtain ⟨i, hi, hz, hsz, hby⟩ := info_parts info_td
  cases A with
  | none =>
    have h0 : l = [] := by
      cases l with
      | nil => rfl
      | cons y r => obtain ⟨ad, e, _⟩ := hr.row 0 (by simp); cases e
    subst h0
    obtain rfl := hA rfl
    have hrun := run_append_owned_none (P := Tryd.prog) (w := W) B 24 o.type 41 i 2 Tryd.underlying24 hi v 0 [] hown
    unfold Oper.wp
    simp only [List.length_nil] at hx
    simp [execOp, ho, resolve, invoke, builtin, hs, hx, hrun, Result.andThen]
    exact h v W hown (Below.refl _ _) (World.grownBy.refl _ _)
  | some ad =>
    have hl := flat_len cellsTD 2 cellsTD_len l
    refine wp_append_own W s x 24 ho B 41 i _ 2 40 Tryd.underlying24 hi hz hsz hby rfl (by decide) v 0 [] hs hown ad l.length c (l.flatMap cellsTD) hx hl (newsT hr) (oneT l) (by unfold maxLen; omega) (by omega) hB (fun v' w' h2 h3 _ => ?_)
    rw [Nat.zero_add, List.nil_append] at h2
    exact h v' w' h2 (grow_below hB h3 (fun k e => (hown.lt k e).1)) h3
theorem app_all_TL {W : World} {ops : Array Oper} {rest : List Oper} {o : Oper} {a : Act} {Q : Exit → Act → World → Prop} (hgd : o.guard = none) (s x : Operand)
    (ho : o.op = .call { callee := .builtin .append, args := #[s, x], argTypes := #[24, 24] }) (B : Nat) (v : Value) (hs : a.eval s = v) (hown : W.ownsRow B 41 2 v 0 [])
    (A : Option Addr) (l : List TD) (n c : Nat) (hn : n = l.length) (hx : a.eval x = .slice A n c) (hA : A = none → c = 0) (hr : ReadsT W A l) (hb : n ≤ 1000000000000) (hB : B ≤ W.heap.size)
    (h : ∀ v' w', w'.ownsRow B 41 2 v' n (l.flatMap cellsTD) → Below B W w' → wpList Tryd.prog ops Q rest (a.put o.dst v') w') : wpList Tryd.prog ops Q (o :: rest) a W :=
  wpList_plain hgd fun _ hK => app_all_T s x ho B v hs hown A l n c hn hx hA hr hb hB (fun v' w' h1 h2 _ => hK _ _ (h v' w' h1 h2))
/-- One record behind a row. -/
theorem app_one_T {W : World} {o : Oper} {a : Act} {K : Act → World → Prop} {Q : Exit → Act → World → Prop} (s x : Operand)
    (ho : o.op = .call { callee := .builtin .append, args := #[s, x], argTypes := #[24, 24] }) (B : Nat) (v : Value) (n : Nat) (xs : List Value) (hs : a.eval s = v) (hown : W.ownsRow B 41 2 v n xs)
    (g : Nat) (e : TD) (hx : a.eval x = .slice (some ⟨g, 0, none⟩) 1 1) (hbox : TBox2 W g (cellsTD e).toArray) (hb : n ≤ 1000000000000) (hB : B ≤ W.heap.size)
    (h : ∀ v' w', w'.ownsRow B 41 2 v' (n + 1) (xs ++ cellsTD e) → Below B W w' → W.grownBy w' v.ownBlock → K (a.put o.dst v') w') : o.wp Tryd.prog a W K Q := by
  obtain ⟨i, hi, hz, hsz, hby⟩ := info_parts info_td
  refine wp_append_own W s x 24 ho B 41 i _ 2 40 Tryd.underlying24 hi hz hsz hby rfl (by decide) v n xs hs hown ⟨g, 0, none⟩ 1 1 (cellsTD e) hx (by rw [cellsTD_len]) (fun j u hu => ?_) (fun u hu => oneT [e] u (by simpa using hu)) (by unfold maxLen; omega) (by omega) hB (fun v' w' h2 h3 _ => h v' w' h2 (grow_below hB h3 (fun k e => (hown.lt k e).1)) h3)
  rw [add_zero_, hbox.cells j]
  simpa using hu
theorem app_one_TL {W : World} {ops : Array Oper} {rest : List Oper} {o : Oper} {a : Act} {Q : Exit → Act → World → Prop} (hgd : o.guard = none) (s x : Operand)
    (ho : o.op = .call { callee := .builtin .append, args := #[s, x], argTypes := #[24, 24] }) (B : Nat) (v : Value) (n : Nat) (xs : List Value) (hs : a.eval s = v) (hown : W.ownsRow B 41 2 v n xs)
    (g : Nat) (e : TD) (hx : a.eval x = .slice (some ⟨g, 0, none⟩) 1 1) (hbox : TBox2 W g (cellsTD e).toArray) (hb : n ≤ 1000000000000) (hB : B ≤ W.heap.size)
    (h : ∀ v' w', w'.ownsRow B 41 2 v' (n + 1) (xs ++ cellsTD e) → Below B W w' → W.grownBy w' v.ownBlock → wpList Tryd.prog ops Q rest (a.put o.dst v') w') : wpList Tryd.prog ops Q (o :: rest) a W :=
  wpList_plain hgd fun _ hK => app_one_T s x ho B v n xs hs hown g e hx hbox hb hB (fun v' w' h1 h2 h3 => hK _ _ (h v' w' h1 h2 h3))
theorem read_more_T {W : World} {B n : Nat} {v : Value} {l : List TD} {e : TD} (hn : n = l.length) (h : W.ownsRow B 41 2 v (n + 1) (l.flatMap cellsTD ++ cellsTD e)) (hb : n ≤ 1000000000000) (hl : ∀ x ∈ l, goodTD W x) (he : goodTD W e) : ∃ A c, v = .slice A (n + 1) c ∧ ReadsT W A (l ++ [e]) := by
  subst hn
  have hlen : (l ++ [e]).length = l.length + 1 := by simp
  have hfl : (l ++ [e]).flatMap cellsTD = l.flatMap cellsTD ++ cellsTD e := by simp
  rw [← hlen, ← hfl] at h
  obtain ⟨A, c, hv, hr⟩ := readsT_own h (by omega) (fun x hx => by
    rcases List.mem_append.1 hx with hx | hx
    · exact hl x hx
    · obtain rfl : x = e := by simpa using hx
      exact he)
  exact ⟨A, c, by rw [hv, hlen], hr⟩
theorem ReadsT.all {W : World} {A : Option Addr} {l : List TD} (h : ReadsT W A l) : ∀ x ∈ l, goodTD W x := fun x hx => ⟨h.txt x hx, h.props x hx⟩
theorem goodTD.below {W W' : World} {x : TD} (h : goodTD W x) (hb : Below W.heap.size W W') : goodTD W' x := ⟨h.1, h.2.below hb⟩
theorem cellsQD_len (x : QD) : (cellsQD x).length = 6 := rfl
theorem readsQ_own {W : World} {B : Nat} {v : Value} {l : List QD} (h : W.ownsRow B 96 6 v l.length (l.flatMap cellsQD)) (hl : l.length ≤ 9223372036854775807) (hg : ∀ x ∈ l, goodQD W x) : ∃ A c, v = .slice A l.length c ∧ ReadsQ W A l := by
  obtain ⟨A, c, rfl, hrow⟩ := own_rows cellsQD 6 QD.zero cellsQD_len h (by decide)
  exact ⟨A, c, rfl, hl, fun j hj => by
    obtain ⟨a, e, h1, h2, h3⟩ := hrow j hj
    have e0 : (⟨(a.add (j * 6)).block, (a.add (j * 6)).off + 0, none⟩ : Addr) = a.add (j * 6) := by
      rw [← h2]
      rfl
    have r0 := h3 0 (by omega)
    rw [e0] at r0
    exact ⟨a, e, h1, h2, r0, h3 1 (by omega), h3 2 (by omega), h3 3 (by omega), h3 4 (by omega), h3 5 (by omega)⟩, fun x hx => (hg x hx).1, fun x hx => (hg x hx).2.1, fun x hx => (hg x hx).2.2⟩
/-- The same, its block told. -/
theorem readsQ_own_at {W : World} {B : Nat} {v : Value} {l : List QD} (h : W.ownsRow B 96 6 v l.length (l.flatMap cellsQD)) (hl : l.length ≤ 9223372036854775807) (hg : ∀ x ∈ l, goodQD W x) : ∃ A c, v = .slice A l.length c ∧ ReadsQ W A l ∧ ∀ ad, A = some ad → B ≤ ad.block ∧ ad.block < W.heap.size := by
  obtain ⟨A, c, rfl, hr⟩ := readsQ_own h hl hg
  refine ⟨A, c, rfl, hr, fun ad e => ?_⟩
  obtain ⟨_, ⟨h1, _⟩ | ⟨g, cap, cur, h1, hg1, hh, _⟩⟩ := h
  · rw [e] at h1
    cases h1
  · rw [e] at h1
    cases h1
    exact ⟨hg1, (Array.getElem?_eq_some_iff.1 hh).1⟩
theorem newsQ {W : World} {ad : Addr} {es : List QD} (h : ReadsQ W (some ad) es) : ∀ j u, (es.flatMap cellsQD)[j]? = some u → W.cell? (ad.add j) = some u := by
  intro j u hu
  obtain ⟨hlt, _⟩ := List.getElem?_eq_some_iff.1 hu
  rw [flat_len cellsQD 6 cellsQD_len] at hlt
  have hq : j / 6 < es.length := by omega
  have hj : j = j / 6 * 6 + j % 6 := by omega
  have hi : j % 6 < 6 := by omega
  obtain ⟨a0, e0, hh0⟩ := h.row 0 (by omega)
  cases e0
  have hs := spot_of_add _ _ hh0.spot
  obtain ⟨a, e, hh⟩ := h.row (j / 6) hq
  cases e
  have e1 : ad.add j = ⟨ad.block, ad.off + j, none⟩ := add_cell _ _ hs
  have e2 : ad.add (j / 6 * 6) = ⟨ad.block, ad.off + j / 6 * 6, none⟩ := add_cell _ _ hs
  have hx := flat_at cellsQD 6 QD.zero cellsQD_len es (j / 6) (j % 6) hq hi
  rw [← hj, hu] at hx
  have c0 := hh.c0
  have c1 := hh.c1
  have c2 := hh.c2
  have c3 := hh.c3
  have c4 := hh.c4
  have c5 := hh.c5
  rw [e2] at c0 c1 c2 c3 c4 c5
  rw [e1]
  have ho : ad.off + j = ad.off + j / 6 * 6 + j % 6 := by omega
  rw [ho]
  generalize j % 6 = i at hx hi
  rw [hx]
  match i, hi with
  | 0, _ => exact c0
  | 1, _ => exact c1
  | 2, _ => exact c2
  | 3, _ => exact c3
  | 4, _ => exact c4
  | 5, _ => exact c5
theorem oneQ (es : List QD) : ∀ u ∈ es.flatMap cellsQD, u.oneCell' = true := by
  intro u hu
  obtain ⟨x, _, hx⟩ := List.mem_flatMap.1 hu
  simp only [cellsQD, List.mem_cons, List.not_mem_nil, or_false] at hx
  rcases hx with rfl | rfl | rfl | rfl | rfl | rfl <;> rfl
theorem info_qd : (Tryd.prog.info? 96).map (fun i => (i.zero, i.size, i.bytes)) = some (some (.agg #[.string ⟨#[]⟩, .int .i64 0, .bool false, .int .i64 0, .string ⟨#[]⟩, .slice none 0 0]), 6, 80) := by kernel_rfl
/-- What stays when other blocks turn. -/
theorem ReadsQ.keep {W W' : World} {A : Option Addr} {l : List QD} (h : ReadsQ W A l) (hk : ∀ ad, A = some ad → l ≠ [] → W'.heap[ad.block]? = W.heap[ad.block]?) (hg : ∀ x ∈ l, goodQD W' x) : ReadsQ W' A l :=
  ⟨h.len, fun j hj => by
    obtain ⟨ad, e, hh⟩ := h.row j hj
    have hb := hk ad e (fun e => by rw [e] at hj; cases hj)
    rw [← block_add ad (j * 6)] at hb
    exact ⟨ad, e, lt_cell ((World.cell?_of_block hb).trans hh.c0), hh.spot, (World.cell?_of_block hb).trans hh.c0, (World.cell?_of_block (a := ⟨(ad.add (j * 6)).block, (ad.add (j * 6)).off + 1, none⟩) hb).trans hh.c1, (World.cell?_of_block (a := ⟨(ad.add (j * 6)).block, (ad.add (j * 6)).off + 2, none⟩) hb).trans hh.c2, (World.cell?_of_block (a := ⟨(ad.add (j * 6)).block, (ad.add (j * 6)).off + 3, none⟩) hb).trans hh.c3, (World.cell?_of_block (a := ⟨(ad.add (j * 6)).block, (ad.add (j * 6)).off + 4, none⟩) hb).trans hh.c4, (World.cell?_of_block (a := ⟨(ad.add (j * 6)).block, (ad.add (j * 6)).off + 5, none⟩) hb).trans hh.c5⟩, fun x hx => (hg x hx).1, fun x hx => (hg x hx).2.1, fun x hx => (hg x hx).2.2⟩
def QBox2 (W : World) (b : Nat) (a : Array Value) : Prop := W.heap[b]? = some (.cells a 96)
theorem QBox2.cells {W : World} {b : Nat} {a : Array Value} (h : QBox2 W b a) (i : Nat) : W.cell? ⟨b, i, none⟩ = a[i]? := by
  unfold World.cell?
  rw [h]
  rfl
theorem own_empty_Q (W : World) (B : Nat) (hB : B ≤ W.heap.size) : (W.alloc (.cells #[] 96)).ownsRow B 96 6 (.slice (some ⟨W.heap.size, 0, none⟩) 0 0) 0 [] :=
  ⟨by simp, .inr ⟨W.heap.size, 0, #[], rfl, hB, by simpa using heap_alloc_new W _, Nat.le_refl _, by decide, by simp, by simp⟩⟩
/-- All of a row that came in, put behind an empty row. -/
theorem app_all_Q {W : World} {o : Oper} {a : Act} {K : Act → World → Prop} {Q : Exit → Act → World → Prop} (s x : Operand)
    (ho : o.op = .call { callee := .builtin .append, args := #[s, x], argTypes := #[50, 50] }) (B : Nat) (v : Value) (hs : a.eval s = v) (hown : W.ownsRow B 96 6 v 0 [])
    (A : Option Addr) (l : List QD) (n c : Nat) (hn : n = l.length) (hx : a.eval x = .slice A n c) (hA : A = none → c = 0) (hr : ReadsQ W A l) (hb : n ≤ 1000000000000) (hB : B ≤ W.heap.size)
    (h : ∀ v' w', w'.ownsRow B 96 6 v' n (l.flatMap cellsQD) → Below B W w' → W.grownBy w' v.ownBlock → K (a.put o.dst v') w') : o.wp Tryd.prog a W K Q := by
  subst hn
  obtain ⟨i, hi, hz, hsz, hby⟩ := info_parts info_qd
  cases A with
  | none =>
    have h0 : l = [] := by
      cases l with
      | nil => rfl
      | cons y r => obtain ⟨ad, e, _⟩ := hr.row 0 (by simp); cases e
    subst h0
    obtain rfl := hA rfl
    have hrun := run_append_owned_none (P := Tryd.prog) (w := W) B 50 o.type 96 i 6 Tryd.underlying50 hi v 0 [] hown
    unfold Oper.wp
    simp only [List.length_nil] at hx
    simp [execOp, ho, resolve, invoke, builtin, hs, hx, hrun, Result.andThen]
    exact h v W hown (Below.refl _ _) (World.grownBy.refl _ _)
  | some ad =>
    have hl := flat_len cellsQD 6 cellsQD_len l
    refine wp_append_own W s x 50 ho B 96 i _ 6 80 Tryd.underlying50 hi hz hsz hby rfl (by decide) v 0 [] hs hown ad l.length c (l.flatMap cellsQD) hx hl (newsQ hr) (oneQ l) (by unfold maxLen; omega) (by omega) hB (fun v' w' h2 h3 _ => ?_)
    rw [Nat.zero_add, List.nil_append] at h2
    exact h v' w' h2 (grow_below hB h3 (fun k e => (hown.lt k e).1)) h3
theorem app_all_QL {W : World} {ops : Array Oper} {rest : List Oper} {o : Oper} {a : Act} {Q : Exit → Act → World → Prop} (hgd : o.guard = none) (s x : Operand)
    (ho : o.op = .call { callee := .builtin .append, args := #[s, x], argTypes := #[50, 50] }) (B : Nat) (v : Value) (hs : a.eval s = v) (hown : W.ownsRow B 96 6 v 0 [])
    (A : Option Addr) (l : List QD) (n c : Nat) (hn : n = l.length) (hx : a.eval x = .slice A n c) (hA : A = none → c = 0) (hr : ReadsQ W A l) (hb : n ≤ 1000000000000) (hB : B ≤ W.heap.size)
    (h : ∀ v' w', w'.ownsRow B 96 6 v' n (l.flatMap cellsQD) → Below B W w' → wpList Tryd.prog ops Q rest (a.put o.dst v') w') : wpList Tryd.prog ops Q (o :: rest) a W :=
  wpList_plain hgd fun _ hK => app_all_Q s x ho B v hs hown A l n c hn hx hA hr hb hB (fun v' w' h1 h2 _ => hK _ _ (h v' w' h1 h2))
/-- One record behind a row. -/
theorem app_one_Q {W : World} {o : Oper} {a : Act} {K : Act → World → Prop} {Q : Exit → Act → World → Prop} (s x : Operand)
    (ho : o.op = .call { callee := .builtin .append, args := #[s, x], argTypes := #[50, 50] }) (B : Nat) (v : Value) (n : Nat) (xs : List Value) (hs : a.eval s = v) (hown : W.ownsRow B 96 6 v n xs)
    (g : Nat) (e : QD) (hx : a.eval x = .slice (some ⟨g, 0, none⟩) 1 1) (hbox : QBox2 W g (cellsQD e).toArray) (hb : n ≤ 1000000000000) (hB : B ≤ W.heap.size)
    (h : ∀ v' w', w'.ownsRow B 96 6 v' (n + 1) (xs ++ cellsQD e) → Below B W w' → W.grownBy w' v.ownBlock → K (a.put o.dst v') w') : o.wp Tryd.prog a W K Q := by
  obtain ⟨i, hi, hz, hsz, hby⟩ := info_parts info_qd
  refine wp_append_own W s x 50 ho B 96 i _ 6 80 Tryd.underlying50 hi hz hsz hby rfl (by decide) v n xs hs hown ⟨g, 0, none⟩ 1 1 (cellsQD e) hx (by rw [cellsQD_len]) (fun j u hu => ?_) (fun u hu => oneQ [e] u (by simpa using hu)) (by unfold maxLen; omega) (by omega) hB (fun v' w' h2 h3 _ => h v' w' h2 (grow_below hB h3 (fun k e => (hown.lt k e).1)) h3)
  rw [add_zero_, hbox.cells j]
  simpa using hu
theorem app_one_QL {W : World} {ops : Array Oper} {rest : List Oper} {o : Oper} {a : Act} {Q : Exit → Act → World → Prop} (hgd : o.guard = none) (s x : Operand)
    (ho : o.op = .call { callee := .builtin .append, args := #[s, x], argTypes := #[50, 50] }) (B : Nat) (v : Value) (n : Nat) (xs : List Value) (hs : a.eval s = v) (hown : W.ownsRow B 96 6 v n xs)
    (g : Nat) (e : QD) (hx : a.eval x = .slice (some ⟨g, 0, none⟩) 1 1) (hbox : QBox2 W g (cellsQD e).toArray) (hb : n ≤ 1000000000000) (hB : B ≤ W.heap.size)
    (h : ∀ v' w', w'.ownsRow B 96 6 v' (n + 1) (xs ++ cellsQD e) → Below B W w' → W.grownBy w' v.ownBlock → wpList Tryd.prog ops Q rest (a.put o.dst v') w') : wpList Tryd.prog ops Q (o :: rest) a W :=
  wpList_plain hgd fun _ hK => app_one_Q s x ho B v n xs hs hown g e hx hbox hb hB (fun v' w' h1 h2 h3 => hK _ _ (h v' w' h1 h2 h3))
theorem read_more_Q {W : World} {B n : Nat} {v : Value} {l : List QD} {e : QD} (hn : n = l.length) (h : W.ownsRow B 96 6 v (n + 1) (l.flatMap cellsQD ++ cellsQD e)) (hb : n ≤ 1000000000000) (hl : ∀ x ∈ l, goodQD W x) (he : goodQD W e) : ∃ A c, v = .slice A (n + 1) c ∧ ReadsQ W A (l ++ [e]) := by
  subst hn
  have hlen : (l ++ [e]).length = l.length + 1 := by simp
  have hfl : (l ++ [e]).flatMap cellsQD = l.flatMap cellsQD ++ cellsQD e := by simp
  rw [← hlen, ← hfl] at h
  obtain ⟨A, c, hv, hr⟩ := readsQ_own h (by omega) (fun x hx => by
    rcases List.mem_append.1 hx with hx | hx
    · exact hl x hx
    · obtain rfl : x = e := by simpa using hx
      exact he)
  exact ⟨A, c, by rw [hv, hlen], hr⟩
theorem ReadsQ.all {W : World} {A : Option Addr} {l : List QD} (h : ReadsQ W A l) : ∀ x ∈ l, goodQD W x := fun x hx => ⟨h.txt x hx, h.num x hx, h.path x hx⟩
theorem goodQD.below {W W' : World} {x : QD} (h : goodQD W x) (hb : Below W.heap.size W W') : goodQD W' x := ⟨h.1, h.2.1, h.2.2.below hb⟩
end Go.Proofs.YtffifhinhemkdaaDoor
