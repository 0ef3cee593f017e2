/- The live question of the column laws. -/
import Derived.Test.YtbdbcbpcekpcoaaDoorCvOf
set_option linter.unusedVariables false
set_option linter.unusedSimpArgs false
namespace Go.Proofs.YtbdbcbpcekpcoaaDoor
open Go.RowKit Go.Maps

def headL : List V5 := [⟨2, 3, false, ⟨#[]⟩, none, [], 0⟩, V5.zero]
def headC : Array Value := #[.int .i64 2, .bool false, .int .i64 3, .string ⟨#[]⟩, .slice none 0 0, .int .i64 0, .bool false, .int .i64 0, .string ⟨#[]⟩, .slice none 0 0]
theorem head_reads (w : World) : ReadsV (w.alloc (.cells headC 39)) (some ⟨w.heap.size, 0, none⟩) headL := by
  have hc : ∀ j, (w.alloc (.cells headC 39)).cell? ⟨w.heap.size, j, none⟩ = headC[j]? := fun j => by
    unfold World.cell?
    rw [heap_alloc_new w _]
    rfl
  have hl : w.heap.size < (w.alloc (.cells headC 39)).heap.size := by simp
  refine ⟨by decide, fun j hj => ?_, fun v hv => ?_, fun v hv => ?_⟩
  · match j, hj with
    | 0, _ => exact ⟨_, rfl, hl, rfl, hc 0, hc 1, hc 2, hc 3, hc 4⟩
    | 1, _ => exact ⟨_, rfl, hl, rfl, hc 5, hc 6, hc 7, hc 8, hc 9⟩
  · have : v.p = [] := by
      rcases List.mem_cons.1 hv with rfl | hv
      · rfl
      · rcases List.mem_cons.1 hv with rfl | hv
        · rfl
        · cases hv
    rw [this]
    exact ⟨by simp, fun h => absurd h (by simp)⟩
  · rcases List.mem_cons.1 hv with rfl | hv
    · exact ⟨by decide, by decide⟩
    · rcases List.mem_cons.1 hv with rfl | hv
      · exact ⟨by decide, by decide⟩
      · cases hv
theorem head_fits : ∀ v ∈ headL, fitsV 2 v = true := by
  intro v hv
  rcases List.mem_cons.1 hv with rfl | hv
  · decide
  · rcases List.mem_cons.1 hv with rfl | hv
    · decide
    · cases hv
theorem head_apps : ∀ v ∈ headL, AppOk 2 v := by
  intro v hv
  rcases List.mem_cons.1 hv with rfl | hv
  · exact appOk_num 2 _ (.inl rfl) (.inl rfl) (by decide)
  · rcases List.mem_cons.1 hv with rfl | hv
    · exact appOk_num 2 _ (.inl rfl) (.inr rfl) (by decide)
    · cases hv
def headS : VS := ⟨2, [false, true], [], [3, 0], [], []⟩
theorem head_state : ofL 2 headL = headS := rfl
theorem vecIs_below {W W' : World} {F : Nat → Prop} {b : Nat} {s : VS} (h : VecIs W F b s) (hb : Below W.heap.size W W') : VecIs W' F b s := vecIs_at h (fun k hk _ => hb.block k hk)
set_option maxRecDepth 100000 in
set_option maxHeartbeats 6400000 in
theorem head_any (w : World) : Calls Tryd.prog 5 #[] w fun e w' => e = .returned (.bool true) ∧ Below w.heap.size w w' := by
  have hO := of_ok 2 (some ⟨w.heap.size, 0, none⟩) headL 2 (w.alloc (.cells headC 39)) (by decide) (head_reads w) (by decide) head_fits head_apps
  rw [head_state] at hO
  have hO2 : Calls Tryd.prog 9 #[.int .i64 2, .slice (some ⟨w.heap.size, 0, none⟩) 2 2] (w.alloc (.cells headC 39)) fun e w' => e = .returned (.tuple #[.pointer (some ⟨(w.alloc (.cells headC 39)).heap.size + 1, 0, none⟩), .int .i64 0]) ∧ VecIs w' (fun j => (w.alloc (.cells headC 39)).heap.size ≤ j) ((w.alloc (.cells headC 39)).heap.size + 1) headS ∧ Below (w.alloc (.cells headC 39)).heap.size (w.alloc (.cells headC 39)) w' := hO
  have HO := Aside0.mk hO2
  have HW0 : Aside0 (Below w.heap.size w (w.alloc (.cells headC 39))) := ⟨below_more (Below.refl _ _) _⟩
  clear hO hO2
  go_enter Tryd.func5, Tryd.ntmps5
  go_wp2_with (go_at_call 9; go_loud (refine HO.out.mono ?_))
  first
    | (intro e W1 he hV1 hb1; subst he)
    | rintro e W1 ⟨rfl, hV1, hb1⟩
  have HB1 : Below w.heap.size w W1 := below_then HW0.out hb1
  generalize (w.alloc (.cells headC 39)).heap.size + 1 = b at hV1
  have hLen : Calls Tryd.prog 18 #[.pointer (some ⟨b, 0, none⟩)] W1 fun e w' => e = .returned (.int .i64 2) ∧ w' = W1 := len_any _ b headS W1 hV1
  have hNul : Calls Tryd.prog 19 #[.pointer (some ⟨b, 0, none⟩)] W1 fun e w' => e = .returned (.int .i64 1) ∧ w' = W1 := nulls_any _ b headS W1 hV1 (by decide)
  have hAt : Calls Tryd.prog 21 #[.pointer (some ⟨b, 0, none⟩), .int .i64 0] W1 fun e w' => e = .returned (.agg #[.int .i64 2, .bool false, .int .i64 3, .string ⟨#[]⟩, .slice none 0 0]) ∧ Below W1.heap.size W1 w' := at_int _ b headS 0 W1 hV1 (by decide) rfl (by decide) (.inl rfl) rfl
  have hSame : ∀ W, Calls Tryd.prog 20 #[.agg #[.int .i64 2, .bool false, .int .i64 3, .string ⟨#[]⟩, .slice none 0 0], .agg #[.int .i64 2, .bool false, .int .i64 3, .string ⟨#[]⟩, .slice none 0 0]] W fun e w' => e = .returned (.bool true) ∧ Below W.heap.size W w' := fun W => by
    have h := same_any 2 3 false ⟨#[]⟩ none [] 0 2 3 false ⟨#[]⟩ none [] 0 W ⟨by simp, fun h => absurd h (by simp)⟩ ⟨by simp, fun h => absurd h (by simp)⟩
    rw [show sameB 2 false 3 ⟨#[]⟩ [] 2 false 3 ⟨#[]⟩ [] = true by simp [sameB]] at h
    exact h
  have hNew := fun W => new_none 7 W (.inr (by decide))
  clear hV1 HO HW0 hb1
  go_wp2_with (first | (go_at_call 18; refine hLen.mono ?_; rintro e Wl ⟨rfl, rfl⟩) | (go_at_call 19; refine hNul.mono ?_; rintro e Wn ⟨rfl, rfl⟩) | (go_at_call 21; refine hAt.mono ?_; rintro e W2 ⟨rfl, hb2⟩; have HB2 := below_then HB1 hb2) | (go_at_call 20; refine (hSame _).mono ?_; rintro e W3 ⟨rfl, hb3⟩; have HB3 := below_then HB2 hb3) | (go_at_call 7; refine (hNew _).mono ?_; rintro e Wn ⟨rfl, rfl⟩))
  go_ret
  exact ⟨rfl, HB3⟩
end Go.Proofs.YtbdbcbpcekpcoaaDoor
