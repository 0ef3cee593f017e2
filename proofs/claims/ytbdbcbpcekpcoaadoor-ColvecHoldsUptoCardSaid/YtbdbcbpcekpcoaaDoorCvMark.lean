/- colvec.mark and colvec.marked: bits in an own row of words. -/
import Derived.Test.YtbdbcbpcekpcoaaDoorCvBits
import Derived.Test.YtbdbcbpcekpcoaaDoorRegS
import Derived.Test.YtbdbcbpcekpcoaaDoorRows
import Derived.WalkKit
import Derived.OwnWalk
import Derived.Laws.AppendOwn
import Derived.Laws.OwnMore
import Derived.Maps.AppendAt
import Derived.BigGuardPart
set_option linter.unusedVariables false
set_option linter.unusedSimpArgs false
namespace Go.Proofs.YtbdbcbpcekpcoaaDoor
open Go.RowKit

theorem info_u64 : (Tryd.prog.info? 73).map (fun i => (i.zero, i.size, i.bytes)) = some (some (.int .u64 0), 1, 8) := by kernel_rfl
def wordCells (p : List Int) : List Value := p.map fun n => .int .u64 n
theorem wordCells_len (p : List Int) : (wordCells p).length = p.length := by simp [wordCells]
/-- An own row of bits. -/
def OwnBits (W : World) (B : Nat) (v : Value) (bs : List Bool) : Prop := W.ownsRow B 73 1 v (packW bs).length (wordCells (packW bs))
/-- The block is the old one, or a new one. -/
def Moved (W : World) (v v' : Value) : Prop := v'.ownBlock = v.ownBlock ∨ ∃ k, v'.ownBlock = some k ∧ W.heap.size ≤ k
/-- The words of a slice are read. -/
def ReadsU (w : World) (A : Option Addr) (l : List Int) : Prop :=
  l.length ≤ 9223372036854775807 ∧ (0 < l.length → ∃ ad, A = some ad ∧ ∀ j, j < l.length → w.cell? (ad.add j) = some (.int .u64 (l.getD j 0)))
theorem own_words {W : World} {B : Nat} {v : Value} {p : List Int} (h : W.ownsRow B 73 1 v p.length (wordCells p)) :
    ∃ (A : Option Addr) (cap : Nat), v = .slice A p.length cap ∧ ReadsU W A p ∧ p.length ≤ cap := by
  have h' := h
  rcases h with ⟨hl, ⟨rfl, h0⟩ | ⟨g, cap, cur, rfl, hg, hh, hn, hm, hs, htk⟩⟩
  · rw [h0]
    exact ⟨none, 0, rfl, ⟨by omega, fun hp => absurd hp (by omega)⟩, Nat.le_refl _⟩
  · refine ⟨_, cap, rfl, ⟨by unfold maxLen at hm; omega, fun _ => ⟨_, rfl, fun j hj => ?_⟩⟩, hn⟩
    have hcs := h'.cells (g := g) rfl j (.int .u64 (p.getD j 0)) (by simp [wordCells, List.getD, hj])
    exact hcs
set_option maxRecDepth 100000 in
set_option maxHeartbeats 3200000 in
theorem marked_any (A : Option Addr) (bs : List Bool) (c i : Nat) (w : World) (hr : ReadsU w A (packW bs)) (hi : i < bs.length) :
    Calls Tryd.prog 33 #[.slice A (packW bs).length c, .int .i64 (i : Int)] w fun e w' => e = .returned (.bool (bs.getD i false)) ∧ w' = w := by
  have hl := packW_len bs
  have h63 := hr.1
  obtain ⟨ad, rfl, hc⟩ := hr.2 (by omega)
  have hcell := hc (i / 64) (by omega)
  rw [packW_at bs (i / 64) (by omega)] at hcell
  have hb := word_bit bs i
  have hw := numB_word bs (i / 64)
  generalize bs.getD i false = b at hb ⊢
  generalize numB (chunk bs (i / 64)) = x at hcell hb hw
  obtain ⟨q, hq⟩ : ∃ q, q = i / 64 := ⟨_, rfl⟩
  obtain ⟨m, hm⟩ : ∃ m, m = i % 64 := ⟨_, rfl⟩
  rw [← hq] at hcell
  rw [← hm] at hb
  have hqi : (i : Int).tdiv 64 = (q : Int) := by rw [Int.tdiv_eq_ediv_of_nonneg (by omega), hq]; omega
  have hmi : (i : Int).tmod 64 = (m : Int) := by rw [Int.tmod_eq_emod_of_nonneg (by omega), hm]; omega
  have hlq : q < (packW bs).length := by omega
  generalize (packW bs).length = n at hlq h63 ⊢
  have hm64 : m < 64 := by omega
  have hmi0 : (0 : Int) ≤ (m : Int) := by omega
  have hqi0 : (0 : Int) ≤ (q : Int) := by omega
  have hqn : (q : Int) < (n : Int) := by omega
  have hi0 : (0 : Int) ≤ (i : Int) := by omega
  have hre : (bits .and .u64 ((x : Int) / 2 ^ m) 1 == 1) = b := by
    have e1 : (x : Int) / 2 ^ m = ((x / 2 ^ m : Nat) : Int) := by simp
    rw [e1, and_one _ (Nat.lt_of_le_of_lt (Nat.div_le_self _ _) hw), hb]
    cases b <;> rfl
  have HRE := Aside0.mk hre
  clear hr hc hl hq hm hi hb hw hre
  go_enter Tryd.func33, Tryd.ntmps33
  go_wp2
  rw [HRE.out]
  go_ret
  exact ⟨rfl, rfl⟩
def Marks (W : World) (B : Nat) (v : Value) (bs : List Bool) (e : Ending) (w' : World) : Prop := ∃ v', e = .returned v' ∧ OwnBits w' B v' bs ∧ W.grownBy w' v.ownBlock ∧ Moved W v v'
theorem own_one (W : World) (B : Nat) (v : Value) (bs : List Bool) (h : OwnBits W B v bs) (hp : 0 < bs.length) : ∃ g cap, v = .slice (some ⟨g, 0, none⟩) (packW bs).length cap ∧ (packW bs).length ≤ cap := by
  rcases h.2 with ⟨rfl, h0⟩ | ⟨g, cap, cur, rfl, hg, hh, hn, hm, hs, htk⟩
  · rw [packW_len] at h0
    omega
  · exact ⟨g, cap, rfl, hn⟩
set_option maxRecDepth 100000 in
set_option maxHeartbeats 3200000 in
theorem mark_in_f (B : Nat) (v : Value) (bs : List Bool) (W : World) (hown : OwnBits W B v bs) (hl : bs.length ≤ 8796093022208) (hr : ¬ bs.length % 64 = 0) :
    Calls Tryd.prog 31 #[v, .int .i64 (bs.length : Int), .bool false] W (Marks W B v (bs ++ [false])) := by
  have hsame : OwnBits W B v (bs ++ [false]) := by unfold OwnBits; rw [packW_same bs hr]; exact hown
  have HS := Aside0.mk hsame
  obtain ⟨m, hm⟩ : ∃ m, m = bs.length % 64 := ⟨_, rfl⟩
  generalize bs.length = n at hl hr hm ⊢
  have hmi : (n : Int).tmod 64 = (m : Int) := by rw [Int.tmod_eq_emod_of_nonneg (by omega), hm]; omega
  have hm0 : ((m : Int) == 0) = false := by rw [beq_eq_false_iff_ne]; omega
  clear hown hsame hr hm
  go_enter Tryd.func31, Tryd.ntmps31
  go_wp2
  go_ret
  exact ⟨v, rfl, HS.out, ⟨rfl, rfl, rfl, Nat.le_refl _, fun _ _ _ => rfl⟩, .inl rfl⟩
set_option maxRecDepth 100000 in
set_option maxHeartbeats 3200000 in
theorem mark_0_f (B : Nat) (v : Value) (bs : List Bool) (W : World) (hown : OwnBits W B v bs) (hB : B ≤ W.heap.size) (hl : bs.length ≤ 8796093022208) (hr : bs.length % 64 = 0) :
    Calls Tryd.prog 31 #[v, .int .i64 (bs.length : Int), .bool false] W (Marks W B v (bs ++ [false])) := by
  obtain ⟨i0, hi, hz0, hz1, hz2⟩ := info_parts info_u64
  have hpl := packW_len bs
  have HP := Aside0.mk (packW_snoc0 bs false hr)
  have HOW := Aside0.mk hown
  have hmi : (bs.length : Int).tmod 64 = 0 := by rw [Int.tmod_eq_emod_of_nonneg (by omega)]; omega
  have hpl9 : (packW bs).length ≤ 200000000000 := by omega
  have HPL := Aside0.mk hpl9
  clear hown hpl hpl9
  go_enter Tryd.func31, Tryd.ntmps31
  go_wp2_with (at_builtin; go_loud (refine wpList_append_own_at (w := W.alloc (.cells #[.int .u64 0] 73)) rfl (.tmp 10) (.tmp 11) 51 rfl B 73 i0 (.int .u64 0) 1 8 Tryd.underlying51 hi hz0 hz1 hz2 rfl (by decide) v (packW bs).length (wordCells (packW bs)) rfl (HOW.out.alloc _) ⟨W.heap.size, 0, none⟩ 1 1 [.int .u64 0] rfl rfl (cell_one_new _ _ _) (by intro u hu; simp at hu; subst hu; rfl) (by unfold maxLen; have := HPL.out; omega) (by have := HPL.out; omega) (by simp; omega) ?_))
  intro v1 W1 ho1 hg1 _ hat1
  go_wp2
  go_ret
  have hg := (World.grownBy_alloc W (.cells #[.int .u64 0] 73) v.ownBlock).trans hg1
  refine ⟨v1, rfl, ?_, hg, ?_⟩
  · unfold OwnBits
    rw [HP.out]
    simpa [wordCells] using ho1
  · rcases hat1 with h | h
    · exact .inl h
    · exact .inr ⟨_, h, by simp⟩
end Go.Proofs.YtbdbcbpcekpcoaaDoor
