/- The walk of the law ValueHashes. -/
import Derived.Test.YthafbdkjpgeopaaDoorLawW
import Derived.Test.YthafbdkjpgeopaaDoorHash
set_option linter.unusedVariables false
set_option linter.unusedSimpArgs false
namespace Go.Proofs.YthafbdkjpgeopaaDoor
open Go.RowKit

theorem ReadsV.below {w W : World} {A : Option Addr} {vs : List V5} (h : ReadsV w A vs) (hb : Below w.heap.size w W) : ReadsV W A vs where
  len := h.len
  row := fun j hj => by
    obtain ⟨ad, e, hh⟩ := h.row j hj
    have hl := hh.lt
    exact ⟨ad, e, by have := hb.size; omega, hh.spot, (hb.cell hl).trans hh.c0, (hb.cell (p := ⟨(ad.add (j * 5)).block, (ad.add (j * 5)).off + 1, none⟩) hl).trans hh.c1, (hb.cell (p := ⟨(ad.add (j * 5)).block, (ad.add (j * 5)).off + 2, none⟩) hl).trans hh.c2,
      (hb.cell (p := ⟨(ad.add (j * 5)).block, (ad.add (j * 5)).off + 3, none⟩) hl).trans hh.c3, (hb.cell (p := ⟨(ad.add (j * 5)).block, (ad.add (j * 5)).off + 4, none⟩) hl).trans hh.c4⟩
  path := fun v hv => (h.path v hv).below hb
  num := h.num
set_option maxRecDepth 100000 in
set_option maxHeartbeats 1600000 in
theorem hashes_walk (A : Option Addr) (vs : List V5) (c : Nat) (w : World) (hr : ReadsV w A vs) (ht : Tabs w) (hsz : ∀ v ∈ vs, v.s.size ≤ 9223372036854775807) (hT : Lib.Utf8Tabs 0 1 w) :
    Calls Tryd.prog 17 #[.slice A vs.length c] w fun e w' => e = .returned (.bool true) ∧ Below w.heap.size w w' := by
  have hH := fun W (h : Below w.heap.size w W) => head_any W (ht.below h)
  have hA := fun W (hW : Below w.heap.size w W) => hash_any A vs c W (hr.below hW)
  have hB := fun W (hW : Below w.heap.size w W) => rhash_any A vs c W (hr.below hW) hsz (Utf8Tabs_below hT hW)
  generalize hashV vs 14695981039346656037 = X at hA hB
  have hxx : (X == X) = true := by simp
  generalize vs.length = m at hA hB ⊢
  clear hr ht hsz hT
  go_enter Tryd.func17, Tryd.ntmps17
  go_wp2_with (first
    | (go_at_call 19; refine (hH _ (Below.refl _ _)).mono ?_; rintro e w0 ⟨rfl, hb0⟩)
    | (go_at_call 42; refine (hA _ hb0).mono ?_; rintro e w1 ⟨rfl, hb1⟩; have hb2 := below_then hb0 hb1)
    | (go_at_call 43; refine (hB _ hb2).mono ?_; rintro e w2 ⟨rfl, hb3⟩; have hb4 := below_then hb2 hb3))
  go_ret
  exact ⟨rfl, hb4⟩
end Go.Proofs.YthafbdkjpgeopaaDoor
