/- The walks of value.eight and the document's put: a number's bytes, the highest first. -/
import Derived.Test.YthafbdkjpgeopaaDoorVal0
import Derived.Test.YthafbdkjpgeopaaDoorRows
import Derived.WalkKit
import Derived.OwnWalk
import Derived.Laws.AppendOwn
set_option linter.unusedVariables false
set_option linter.unusedSimpArgs false
namespace Go.Proofs.YthafbdkjpgeopaaDoor
open Go.RowKit

/-- The byte of a number that stands s bits up. -/
def byteAt (x : Int) (s : Nat) : Int := x / 2 ^ s % 256
/-- The first k bytes of a number of m. -/
def octs (x : Int) (m k : Nat) : List Value := (List.range k).map fun j => .int .u8 (byteAt x (8 * (m - 1 - j)))
theorem octs_succ (x : Int) (m k : Nat) : octs x m (k + 1) = octs x m k ++ [.int .u8 (byteAt x (8 * (m - 1 - k)))] := by
  simp [octs, List.range_succ]
theorem octs_length (x : Int) (m k : Nat) : (octs x m k).length = k := by simp [octs]
theorem info_u8 : (Tryd.prog.info? 5).map (fun i => (i.zero, i.size, i.bytes)) = some (some (.int .u8 0), 1, 1) := by kernel_rfl
/-- What an append of one byte leaves, as the walks hand it on. -/
theorem below_grow {B : Nat} {w0 w w' : World} {row : Option Nat} (h : Below B w0 w) (hB : B ≤ w0.heap.size) (hg : w.grownBy w' row) (hr : ∀ k, row = some k → B ≤ k) : Below B w0 w' := by
  refine ⟨hg.os.trans h.os, hg.tape.trans h.tape, hg.output.trans h.output, Nat.le_trans h.size hg.size, fun k hk => ?_⟩
  exact (hg.block k (by have := h.size; omega) (fun e => by have := hr k e.symm; omega)).trans (h.block k hk)

set_option maxRecDepth 100000 in
set_option maxHeartbeats 1600000 in
theorem eight_any (B : Nat) (v : Value) (n : Nat) (xs : List Value) (x : Int) (w : World) (hn : n ≤ 1000000) (hB : B ≤ w.heap.size) (hx0 : -9223372036854775808 ≤ x) (hx1 : x ≤ 9223372036854775807) (hown : w.ownsRow B 5 1 v n xs) :
    Calls Tryd.prog 55 #[v, .int .i64 x] w fun e w' => ∃ v', e = .returned v' ∧ w'.ownsRow B 5 1 v' (n + 8) (xs ++ octs x 8 8) ∧ Below B w w' := by
  obtain ⟨i0, hi, hz0, hz1, hz2⟩ := info_parts info_u8
  go_enter Tryd.func55, Tryd.ntmps55
  go_wp2
  go_loopg [0, 5] 9 (fun gg s0 s5 wr => ∃ k : Nat, k ≤ 8 ∧ 8 < gg + k ∧ s5 = .int .i64 (56 - 8 * (k : Int)) ∧ wr.ownsRow B 5 1 s0 (n + k) (xs ++ octs x 8 k) ∧ Below B w wr)
  case atStart => exact ⟨0, by omega, by omega, rfl, by simpa [octs] using hown, Below.refl _ _⟩
  case round =>
    obtain ⟨k, hk, hg, rfl, ho, HB⟩ := hrel
    clear hown
    rcases (show k = 0 ∨ k = 1 ∨ k = 2 ∨ k = 3 ∨ k = 4 ∨ k = 5 ∨ k = 6 ∨ k = 7 ∨ k = 8 by omega) with rfl | rfl | rfl | rfl | rfl | rfl | rfl | rfl | rfl
    · go_wp2_with (at_builtin; refine wpList_append_own _ rfl (.tmp 10) (.tmp 15) 30 rfl B 5 i0 (.int .u8 0) 1 1 Tryd.underlying30 hi hz0 hz1 hz2 rfl (by decide) _ _ _ rfl (ho.alloc _) ⟨wr.heap.size, 0, none⟩ 1 1 [.int .u8 (x / 72057594037927936 % 256)] rfl rfl ?c1 ?c2 ?c3 ?c4 ?c5 ?_)
      case c1 =>
        intro j u hj
        match j, hj with
        | 0, hj => simp at hj; subst hj; simp [Addr.add]
      case c2 => intro u hu; simp at hu; subst hu; rfl
      case c3 => unfold maxLen; omega
      case c4 => omega
      case c5 => have := HB.size; simp; omega
      intro v' w1 ho1 hg1 _
      have HB1 : Below B w w1 := below_grow (HB.alloc (by have := HB.size; omega) _) hB hg1 (fun k e => (ho.lt k e).1)
      have ho2 : w1.ownsRow B 5 1 v' (n + 1) (xs ++ octs x 8 1) := by
        rw [octs_succ, show byteAt x (8 * (8 - 1 - 0)) = (x / 72057594037927936 % 256) from by simp [byteAt]]
        exact ho1
      clear ho1 hg1 ho HB
      go_wp2
      go_roundg (gk - 1)
      case measure => omega
      case rel => exact ⟨1, by omega, by omega, by go_num, ho2, HB1⟩
    · go_wp2_with (at_builtin; refine wpList_append_own _ rfl (.tmp 10) (.tmp 15) 30 rfl B 5 i0 (.int .u8 0) 1 1 Tryd.underlying30 hi hz0 hz1 hz2 rfl (by decide) _ _ _ rfl (ho.alloc _) ⟨wr.heap.size, 0, none⟩ 1 1 [.int .u8 (x / 281474976710656 % 256)] rfl rfl ?c1 ?c2 ?c3 ?c4 ?c5 ?_)
      case c1 =>
        intro j u hj
        match j, hj with
        | 0, hj => simp at hj; subst hj; simp [Addr.add]
      case c2 => intro u hu; simp at hu; subst hu; rfl
      case c3 => unfold maxLen; omega
      case c4 => omega
      case c5 => have := HB.size; simp; omega
      intro v' w1 ho1 hg1 _
      have HB1 : Below B w w1 := below_grow (HB.alloc (by have := HB.size; omega) _) hB hg1 (fun k e => (ho.lt k e).1)
      have ho2 : w1.ownsRow B 5 1 v' (n + 2) (xs ++ octs x 8 2) := by
        rw [octs_succ, show byteAt x (8 * (8 - 1 - 1)) = (x / 281474976710656 % 256) from by simp [byteAt]]
        exact ho1
      clear ho1 hg1 ho HB
      go_wp2
      go_roundg (gk - 1)
      case measure => omega
      case rel => exact ⟨2, by omega, by omega, by go_num, ho2, HB1⟩
    · go_wp2_with (at_builtin; refine wpList_append_own _ rfl (.tmp 10) (.tmp 15) 30 rfl B 5 i0 (.int .u8 0) 1 1 Tryd.underlying30 hi hz0 hz1 hz2 rfl (by decide) _ _ _ rfl (ho.alloc _) ⟨wr.heap.size, 0, none⟩ 1 1 [.int .u8 (x / 1099511627776 % 256)] rfl rfl ?c1 ?c2 ?c3 ?c4 ?c5 ?_)
      case c1 =>
        intro j u hj
        match j, hj with
        | 0, hj => simp at hj; subst hj; simp [Addr.add]
      case c2 => intro u hu; simp at hu; subst hu; rfl
      case c3 => unfold maxLen; omega
      case c4 => omega
      case c5 => have := HB.size; simp; omega
      intro v' w1 ho1 hg1 _
      have HB1 : Below B w w1 := below_grow (HB.alloc (by have := HB.size; omega) _) hB hg1 (fun k e => (ho.lt k e).1)
      have ho2 : w1.ownsRow B 5 1 v' (n + 3) (xs ++ octs x 8 3) := by
        rw [octs_succ, show byteAt x (8 * (8 - 1 - 2)) = (x / 1099511627776 % 256) from by simp [byteAt]]
        exact ho1
      clear ho1 hg1 ho HB
      go_wp2
      go_roundg (gk - 1)
      case measure => omega
      case rel => exact ⟨3, by omega, by omega, by go_num, ho2, HB1⟩
    · go_wp2_with (at_builtin; refine wpList_append_own _ rfl (.tmp 10) (.tmp 15) 30 rfl B 5 i0 (.int .u8 0) 1 1 Tryd.underlying30 hi hz0 hz1 hz2 rfl (by decide) _ _ _ rfl (ho.alloc _) ⟨wr.heap.size, 0, none⟩ 1 1 [.int .u8 (x / 4294967296 % 256)] rfl rfl ?c1 ?c2 ?c3 ?c4 ?c5 ?_)
      case c1 =>
        intro j u hj
        match j, hj with
        | 0, hj => simp at hj; subst hj; simp [Addr.add]
      case c2 => intro u hu; simp at hu; subst hu; rfl
      case c3 => unfold maxLen; omega
      case c4 => omega
      case c5 => have := HB.size; simp; omega
      intro v' w1 ho1 hg1 _
      have HB1 : Below B w w1 := below_grow (HB.alloc (by have := HB.size; omega) _) hB hg1 (fun k e => (ho.lt k e).1)
      have ho2 : w1.ownsRow B 5 1 v' (n + 4) (xs ++ octs x 8 4) := by
        rw [octs_succ, show byteAt x (8 * (8 - 1 - 3)) = (x / 4294967296 % 256) from by simp [byteAt]]
        exact ho1
      clear ho1 hg1 ho HB
      go_wp2
      go_roundg (gk - 1)
      case measure => omega
      case rel => exact ⟨4, by omega, by omega, by go_num, ho2, HB1⟩
    · go_wp2_with (at_builtin; refine wpList_append_own _ rfl (.tmp 10) (.tmp 15) 30 rfl B 5 i0 (.int .u8 0) 1 1 Tryd.underlying30 hi hz0 hz1 hz2 rfl (by decide) _ _ _ rfl (ho.alloc _) ⟨wr.heap.size, 0, none⟩ 1 1 [.int .u8 (x / 16777216 % 256)] rfl rfl ?c1 ?c2 ?c3 ?c4 ?c5 ?_)
      case c1 =>
        intro j u hj
        match j, hj with
        | 0, hj => simp at hj; subst hj; simp [Addr.add]
      case c2 => intro u hu; simp at hu; subst hu; rfl
      case c3 => unfold maxLen; omega
      case c4 => omega
      case c5 => have := HB.size; simp; omega
      intro v' w1 ho1 hg1 _
      have HB1 : Below B w w1 := below_grow (HB.alloc (by have := HB.size; omega) _) hB hg1 (fun k e => (ho.lt k e).1)
      have ho2 : w1.ownsRow B 5 1 v' (n + 5) (xs ++ octs x 8 5) := by
        rw [octs_succ, show byteAt x (8 * (8 - 1 - 4)) = (x / 16777216 % 256) from by simp [byteAt]]
        exact ho1
      clear ho1 hg1 ho HB
      go_wp2
      go_roundg (gk - 1)
      case measure => omega
      case rel => exact ⟨5, by omega, by omega, by go_num, ho2, HB1⟩
    · go_wp2_with (at_builtin; refine wpList_append_own _ rfl (.tmp 10) (.tmp 15) 30 rfl B 5 i0 (.int .u8 0) 1 1 Tryd.underlying30 hi hz0 hz1 hz2 rfl (by decide) _ _ _ rfl (ho.alloc _) ⟨wr.heap.size, 0, none⟩ 1 1 [.int .u8 (x / 65536 % 256)] rfl rfl ?c1 ?c2 ?c3 ?c4 ?c5 ?_)
      case c1 =>
        intro j u hj
        match j, hj with
        | 0, hj => simp at hj; subst hj; simp [Addr.add]
      case c2 => intro u hu; simp at hu; subst hu; rfl
      case c3 => unfold maxLen; omega
      case c4 => omega
      case c5 => have := HB.size; simp; omega
      intro v' w1 ho1 hg1 _
      have HB1 : Below B w w1 := below_grow (HB.alloc (by have := HB.size; omega) _) hB hg1 (fun k e => (ho.lt k e).1)
      have ho2 : w1.ownsRow B 5 1 v' (n + 6) (xs ++ octs x 8 6) := by
        rw [octs_succ, show byteAt x (8 * (8 - 1 - 5)) = (x / 65536 % 256) from by simp [byteAt]]
        exact ho1
      clear ho1 hg1 ho HB
      go_wp2
      go_roundg (gk - 1)
      case measure => omega
      case rel => exact ⟨6, by omega, by omega, by go_num, ho2, HB1⟩
    · go_wp2_with (at_builtin; refine wpList_append_own _ rfl (.tmp 10) (.tmp 15) 30 rfl B 5 i0 (.int .u8 0) 1 1 Tryd.underlying30 hi hz0 hz1 hz2 rfl (by decide) _ _ _ rfl (ho.alloc _) ⟨wr.heap.size, 0, none⟩ 1 1 [.int .u8 (x / 256 % 256)] rfl rfl ?c1 ?c2 ?c3 ?c4 ?c5 ?_)
      case c1 =>
        intro j u hj
        match j, hj with
        | 0, hj => simp at hj; subst hj; simp [Addr.add]
      case c2 => intro u hu; simp at hu; subst hu; rfl
      case c3 => unfold maxLen; omega
      case c4 => omega
      case c5 => have := HB.size; simp; omega
      intro v' w1 ho1 hg1 _
      have HB1 : Below B w w1 := below_grow (HB.alloc (by have := HB.size; omega) _) hB hg1 (fun k e => (ho.lt k e).1)
      have ho2 : w1.ownsRow B 5 1 v' (n + 7) (xs ++ octs x 8 7) := by
        rw [octs_succ, show byteAt x (8 * (8 - 1 - 6)) = (x / 256 % 256) from by simp [byteAt]]
        exact ho1
      clear ho1 hg1 ho HB
      go_wp2
      go_roundg (gk - 1)
      case measure => omega
      case rel => exact ⟨7, by omega, by omega, by go_num, ho2, HB1⟩
    · go_wp2_with (at_builtin; refine wpList_append_own _ rfl (.tmp 10) (.tmp 15) 30 rfl B 5 i0 (.int .u8 0) 1 1 Tryd.underlying30 hi hz0 hz1 hz2 rfl (by decide) _ _ _ rfl (ho.alloc _) ⟨wr.heap.size, 0, none⟩ 1 1 [.int .u8 (x % 256)] rfl rfl ?c1 ?c2 ?c3 ?c4 ?c5 ?_)
      case c1 =>
        intro j u hj
        match j, hj with
        | 0, hj => simp at hj; subst hj; simp [Addr.add]
      case c2 => intro u hu; simp at hu; subst hu; rfl
      case c3 => unfold maxLen; omega
      case c4 => omega
      case c5 => have := HB.size; simp; omega
      intro v' w1 ho1 hg1 _
      have HB1 : Below B w w1 := below_grow (HB.alloc (by have := HB.size; omega) _) hB hg1 (fun k e => (ho.lt k e).1)
      have ho2 : w1.ownsRow B 5 1 v' (n + 8) (xs ++ octs x 8 8) := by
        rw [octs_succ, show byteAt x (8 * (8 - 1 - 7)) = (x % 256) from by simp [byteAt]]
        exact ho1
      clear ho1 hg1 ho HB
      go_wp2
      go_roundg (gk - 1)
      case measure => omega
      case rel => exact ⟨8, by omega, by omega, by go_num, ho2, HB1⟩
    · go_wp2
      go_ret
      exact ⟨_, rfl, ho, HB⟩

set_option maxRecDepth 100000 in
set_option maxHeartbeats 1600000 in
theorem put_8 (B : Nat) (v : Value) (n : Nat) (xs : List Value) (y : Int) (w : World) (hn : n ≤ 1000000) (hB : B ≤ w.heap.size) (hx0 : 0 ≤ y) (hx1 : y ≤ 18446744073709551615) (hown : w.ownsRow B 5 1 v n xs) :
    Calls Tryd.prog 70 #[v, .int .i64 8, .int .u64 y] w fun e w' => ∃ v', e = .returned v' ∧ w'.ownsRow B 5 1 v' (n + 8) (xs ++ octs y 8 8) ∧ Below B w w' := by
  obtain ⟨i0, hi, hz0, hz1, hz2⟩ := info_parts info_u8
  go_enter Tryd.func70, Tryd.ntmps70
  go_wp2
  go_loopg [0, 7] 9 (fun gg s0 s7 wr => ∃ k : Nat, k ≤ 8 ∧ 8 < gg + k ∧ s7 = .int .i64 (7 - (k : Int)) ∧ wr.ownsRow B 5 1 s0 (n + k) (xs ++ octs y 8 k) ∧ Below B w wr)
  case atStart => exact ⟨0, by omega, by omega, rfl, by simpa [octs] using hown, Below.refl _ _⟩
  case round =>
    obtain ⟨k, hk, hg, rfl, ho, HB⟩ := hrel
    clear hown
    rcases (show k = 0 ∨ k = 1 ∨ k = 2 ∨ k = 3 ∨ k = 4 ∨ k = 5 ∨ k = 6 ∨ k = 7 ∨ k = 8 by omega) with rfl | rfl | rfl | rfl | rfl | rfl | rfl | rfl | rfl
    · go_wp2_with (at_builtin; refine wpList_append_own _ rfl (.tmp 14) (.tmp 20) 30 rfl B 5 i0 (.int .u8 0) 1 1 Tryd.underlying30 hi hz0 hz1 hz2 rfl (by decide) _ _ _ rfl (ho.alloc _) ⟨wr.heap.size, 0, none⟩ 1 1 [.int .u8 (y / 72057594037927936)] rfl rfl ?c1 ?c2 ?c3 ?c4 ?c5 ?_)
      case c1 =>
        intro j u hj
        match j, hj with
        | 0, hj => simp at hj; subst hj; simp [Addr.add]
      case c2 => intro u hu; simp at hu; subst hu; rfl
      case c3 => unfold maxLen; omega
      case c4 => omega
      case c5 => have := HB.size; simp; omega
      intro v' w1 ho1 hg1 _
      have HB1 : Below B w w1 := below_grow (HB.alloc (by have := HB.size; omega) _) hB hg1 (fun k e => (ho.lt k e).1)
      have ho2 : w1.ownsRow B 5 1 v' (n + 1) (xs ++ octs y 8 1) := by
        rw [octs_succ, show byteAt y (8 * (8 - 1 - 0)) = (y / 72057594037927936) from by simp [byteAt] <;> omega]
        exact ho1
      clear ho1 hg1 ho HB
      go_wp2
      go_roundg (gk - 1)
      case measure => omega
      case rel => exact ⟨1, by omega, by omega, by go_num, ho2, HB1⟩
    · go_wp2_with (at_builtin; refine wpList_append_own _ rfl (.tmp 14) (.tmp 20) 30 rfl B 5 i0 (.int .u8 0) 1 1 Tryd.underlying30 hi hz0 hz1 hz2 rfl (by decide) _ _ _ rfl (ho.alloc _) ⟨wr.heap.size, 0, none⟩ 1 1 [.int .u8 (y / 281474976710656 % 256)] rfl rfl ?c1 ?c2 ?c3 ?c4 ?c5 ?_)
      case c1 =>
        intro j u hj
        match j, hj with
        | 0, hj => simp at hj; subst hj; simp [Addr.add]
      case c2 => intro u hu; simp at hu; subst hu; rfl
      case c3 => unfold maxLen; omega
      case c4 => omega
      case c5 => have := HB.size; simp; omega
      intro v' w1 ho1 hg1 _
      have HB1 : Below B w w1 := below_grow (HB.alloc (by have := HB.size; omega) _) hB hg1 (fun k e => (ho.lt k e).1)
      have ho2 : w1.ownsRow B 5 1 v' (n + 2) (xs ++ octs y 8 2) := by
        rw [octs_succ, show byteAt y (8 * (8 - 1 - 1)) = (y / 281474976710656 % 256) from by simp [byteAt] <;> omega]
        exact ho1
      clear ho1 hg1 ho HB
      go_wp2
      go_roundg (gk - 1)
      case measure => omega
      case rel => exact ⟨2, by omega, by omega, by go_num, ho2, HB1⟩
    · go_wp2_with (at_builtin; refine wpList_append_own _ rfl (.tmp 14) (.tmp 20) 30 rfl B 5 i0 (.int .u8 0) 1 1 Tryd.underlying30 hi hz0 hz1 hz2 rfl (by decide) _ _ _ rfl (ho.alloc _) ⟨wr.heap.size, 0, none⟩ 1 1 [.int .u8 (y / 1099511627776 % 256)] rfl rfl ?c1 ?c2 ?c3 ?c4 ?c5 ?_)
      case c1 =>
        intro j u hj
        match j, hj with
        | 0, hj => simp at hj; subst hj; simp [Addr.add]
      case c2 => intro u hu; simp at hu; subst hu; rfl
      case c3 => unfold maxLen; omega
      case c4 => omega
      case c5 => have := HB.size; simp; omega
      intro v' w1 ho1 hg1 _
      have HB1 : Below B w w1 := below_grow (HB.alloc (by have := HB.size; omega) _) hB hg1 (fun k e => (ho.lt k e).1)
      have ho2 : w1.ownsRow B 5 1 v' (n + 3) (xs ++ octs y 8 3) := by
        rw [octs_succ, show byteAt y (8 * (8 - 1 - 2)) = (y / 1099511627776 % 256) from by simp [byteAt] <;> omega]
        exact ho1
      clear ho1 hg1 ho HB
      go_wp2
      go_roundg (gk - 1)
      case measure => omega
      case rel => exact ⟨3, by omega, by omega, by go_num, ho2, HB1⟩
    · go_wp2_with (at_builtin; refine wpList_append_own _ rfl (.tmp 14) (.tmp 20) 30 rfl B 5 i0 (.int .u8 0) 1 1 Tryd.underlying30 hi hz0 hz1 hz2 rfl (by decide) _ _ _ rfl (ho.alloc _) ⟨wr.heap.size, 0, none⟩ 1 1 [.int .u8 (y / 4294967296 % 256)] rfl rfl ?c1 ?c2 ?c3 ?c4 ?c5 ?_)
      case c1 =>
        intro j u hj
        match j, hj with
        | 0, hj => simp at hj; subst hj; simp [Addr.add]
      case c2 => intro u hu; simp at hu; subst hu; rfl
      case c3 => unfold maxLen; omega
      case c4 => omega
      case c5 => have := HB.size; simp; omega
      intro v' w1 ho1 hg1 _
      have HB1 : Below B w w1 := below_grow (HB.alloc (by have := HB.size; omega) _) hB hg1 (fun k e => (ho.lt k e).1)
      have ho2 : w1.ownsRow B 5 1 v' (n + 4) (xs ++ octs y 8 4) := by
        rw [octs_succ, show byteAt y (8 * (8 - 1 - 3)) = (y / 4294967296 % 256) from by simp [byteAt] <;> omega]
        exact ho1
      clear ho1 hg1 ho HB
      go_wp2
      go_roundg (gk - 1)
      case measure => omega
      case rel => exact ⟨4, by omega, by omega, by go_num, ho2, HB1⟩
    · go_wp2_with (at_builtin; refine wpList_append_own _ rfl (.tmp 14) (.tmp 20) 30 rfl B 5 i0 (.int .u8 0) 1 1 Tryd.underlying30 hi hz0 hz1 hz2 rfl (by decide) _ _ _ rfl (ho.alloc _) ⟨wr.heap.size, 0, none⟩ 1 1 [.int .u8 (y / 16777216 % 256)] rfl rfl ?c1 ?c2 ?c3 ?c4 ?c5 ?_)
      case c1 =>
        intro j u hj
        match j, hj with
        | 0, hj => simp at hj; subst hj; simp [Addr.add]
      case c2 => intro u hu; simp at hu; subst hu; rfl
      case c3 => unfold maxLen; omega
      case c4 => omega
      case c5 => have := HB.size; simp; omega
      intro v' w1 ho1 hg1 _
      have HB1 : Below B w w1 := below_grow (HB.alloc (by have := HB.size; omega) _) hB hg1 (fun k e => (ho.lt k e).1)
      have ho2 : w1.ownsRow B 5 1 v' (n + 5) (xs ++ octs y 8 5) := by
        rw [octs_succ, show byteAt y (8 * (8 - 1 - 4)) = (y / 16777216 % 256) from by simp [byteAt] <;> omega]
        exact ho1
      clear ho1 hg1 ho HB
      go_wp2
      go_roundg (gk - 1)
      case measure => omega
      case rel => exact ⟨5, by omega, by omega, by go_num, ho2, HB1⟩
    · go_wp2_with (at_builtin; refine wpList_append_own _ rfl (.tmp 14) (.tmp 20) 30 rfl B 5 i0 (.int .u8 0) 1 1 Tryd.underlying30 hi hz0 hz1 hz2 rfl (by decide) _ _ _ rfl (ho.alloc _) ⟨wr.heap.size, 0, none⟩ 1 1 [.int .u8 (y / 65536 % 256)] rfl rfl ?c1 ?c2 ?c3 ?c4 ?c5 ?_)
      case c1 =>
        intro j u hj
        match j, hj with
        | 0, hj => simp at hj; subst hj; simp [Addr.add]
      case c2 => intro u hu; simp at hu; subst hu; rfl
      case c3 => unfold maxLen; omega
      case c4 => omega
      case c5 => have := HB.size; simp; omega
      intro v' w1 ho1 hg1 _
      have HB1 : Below B w w1 := below_grow (HB.alloc (by have := HB.size; omega) _) hB hg1 (fun k e => (ho.lt k e).1)
      have ho2 : w1.ownsRow B 5 1 v' (n + 6) (xs ++ octs y 8 6) := by
        rw [octs_succ, show byteAt y (8 * (8 - 1 - 5)) = (y / 65536 % 256) from by simp [byteAt] <;> omega]
        exact ho1
      clear ho1 hg1 ho HB
      go_wp2
      go_roundg (gk - 1)
      case measure => omega
      case rel => exact ⟨6, by omega, by omega, by go_num, ho2, HB1⟩
    · go_wp2_with (at_builtin; refine wpList_append_own _ rfl (.tmp 14) (.tmp 20) 30 rfl B 5 i0 (.int .u8 0) 1 1 Tryd.underlying30 hi hz0 hz1 hz2 rfl (by decide) _ _ _ rfl (ho.alloc _) ⟨wr.heap.size, 0, none⟩ 1 1 [.int .u8 (y / 256 % 256)] rfl rfl ?c1 ?c2 ?c3 ?c4 ?c5 ?_)
      case c1 =>
        intro j u hj
        match j, hj with
        | 0, hj => simp at hj; subst hj; simp [Addr.add]
      case c2 => intro u hu; simp at hu; subst hu; rfl
      case c3 => unfold maxLen; omega
      case c4 => omega
      case c5 => have := HB.size; simp; omega
      intro v' w1 ho1 hg1 _
      have HB1 : Below B w w1 := below_grow (HB.alloc (by have := HB.size; omega) _) hB hg1 (fun k e => (ho.lt k e).1)
      have ho2 : w1.ownsRow B 5 1 v' (n + 7) (xs ++ octs y 8 7) := by
        rw [octs_succ, show byteAt y (8 * (8 - 1 - 6)) = (y / 256 % 256) from by simp [byteAt] <;> omega]
        exact ho1
      clear ho1 hg1 ho HB
      go_wp2
      go_roundg (gk - 1)
      case measure => omega
      case rel => exact ⟨7, by omega, by omega, by go_num, ho2, HB1⟩
    · go_wp2_with (at_builtin; refine wpList_append_own _ rfl (.tmp 14) (.tmp 20) 30 rfl B 5 i0 (.int .u8 0) 1 1 Tryd.underlying30 hi hz0 hz1 hz2 rfl (by decide) _ _ _ rfl (ho.alloc _) ⟨wr.heap.size, 0, none⟩ 1 1 [.int .u8 (y % 256)] rfl rfl ?c1 ?c2 ?c3 ?c4 ?c5 ?_)
      case c1 =>
        intro j u hj
        match j, hj with
        | 0, hj => simp at hj; subst hj; simp [Addr.add]
      case c2 => intro u hu; simp at hu; subst hu; rfl
      case c3 => unfold maxLen; omega
      case c4 => omega
      case c5 => have := HB.size; simp; omega
      intro v' w1 ho1 hg1 _
      have HB1 : Below B w w1 := below_grow (HB.alloc (by have := HB.size; omega) _) hB hg1 (fun k e => (ho.lt k e).1)
      have ho2 : w1.ownsRow B 5 1 v' (n + 8) (xs ++ octs y 8 8) := by
        rw [octs_succ, show byteAt y (8 * (8 - 1 - 7)) = (y % 256) from by simp [byteAt] <;> omega]
        exact ho1
      clear ho1 hg1 ho HB
      go_wp2
      go_roundg (gk - 1)
      case measure => omega
      case rel => exact ⟨8, by omega, by omega, by go_num, ho2, HB1⟩
    · go_wp2
      go_ret
      exact ⟨_, rfl, ho, HB⟩

set_option maxRecDepth 100000 in
set_option maxHeartbeats 1600000 in
theorem put_4 (B : Nat) (v : Value) (n : Nat) (xs : List Value) (y : Int) (w : World) (hn : n ≤ 1000000) (hB : B ≤ w.heap.size) (hx0 : 0 ≤ y) (hx1 : y ≤ 18446744073709551615) (hown : w.ownsRow B 5 1 v n xs) :
    Calls Tryd.prog 70 #[v, .int .i64 4, .int .u64 y] w fun e w' => ∃ v', e = .returned v' ∧ w'.ownsRow B 5 1 v' (n + 4) (xs ++ octs y 4 4) ∧ Below B w w' := by
  obtain ⟨i0, hi, hz0, hz1, hz2⟩ := info_parts info_u8
  go_enter Tryd.func70, Tryd.ntmps70
  go_wp2
  go_loopg [0, 7] 5 (fun gg s0 s7 wr => ∃ k : Nat, k ≤ 4 ∧ 4 < gg + k ∧ s7 = .int .i64 (3 - (k : Int)) ∧ wr.ownsRow B 5 1 s0 (n + k) (xs ++ octs y 4 k) ∧ Below B w wr)
  case atStart => exact ⟨0, by omega, by omega, rfl, by simpa [octs] using hown, Below.refl _ _⟩
  case round =>
    obtain ⟨k, hk, hg, rfl, ho, HB⟩ := hrel
    clear hown
    rcases (show k = 0 ∨ k = 1 ∨ k = 2 ∨ k = 3 ∨ k = 4 by omega) with rfl | rfl | rfl | rfl | rfl
    · go_wp2_with (at_builtin; refine wpList_append_own _ rfl (.tmp 14) (.tmp 20) 30 rfl B 5 i0 (.int .u8 0) 1 1 Tryd.underlying30 hi hz0 hz1 hz2 rfl (by decide) _ _ _ rfl (ho.alloc _) ⟨wr.heap.size, 0, none⟩ 1 1 [.int .u8 (y / 16777216 % 256)] rfl rfl ?c1 ?c2 ?c3 ?c4 ?c5 ?_)
      case c1 =>
        intro j u hj
        match j, hj with
        | 0, hj => simp at hj; subst hj; simp [Addr.add]
      case c2 => intro u hu; simp at hu; subst hu; rfl
      case c3 => unfold maxLen; omega
      case c4 => omega
      case c5 => have := HB.size; simp; omega
      intro v' w1 ho1 hg1 _
      have HB1 : Below B w w1 := below_grow (HB.alloc (by have := HB.size; omega) _) hB hg1 (fun k e => (ho.lt k e).1)
      have ho2 : w1.ownsRow B 5 1 v' (n + 1) (xs ++ octs y 4 1) := by
        rw [octs_succ, show byteAt y (8 * (4 - 1 - 0)) = (y / 16777216 % 256) from by simp [byteAt] <;> omega]
        exact ho1
      clear ho1 hg1 ho HB
      go_wp2
      go_roundg (gk - 1)
      case measure => omega
      case rel => exact ⟨1, by omega, by omega, by go_num, ho2, HB1⟩
    · go_wp2_with (at_builtin; refine wpList_append_own _ rfl (.tmp 14) (.tmp 20) 30 rfl B 5 i0 (.int .u8 0) 1 1 Tryd.underlying30 hi hz0 hz1 hz2 rfl (by decide) _ _ _ rfl (ho.alloc _) ⟨wr.heap.size, 0, none⟩ 1 1 [.int .u8 (y / 65536 % 256)] rfl rfl ?c1 ?c2 ?c3 ?c4 ?c5 ?_)
      case c1 =>
        intro j u hj
        match j, hj with
        | 0, hj => simp at hj; subst hj; simp [Addr.add]
      case c2 => intro u hu; simp at hu; subst hu; rfl
      case c3 => unfold maxLen; omega
      case c4 => omega
      case c5 => have := HB.size; simp; omega
      intro v' w1 ho1 hg1 _
      have HB1 : Below B w w1 := below_grow (HB.alloc (by have := HB.size; omega) _) hB hg1 (fun k e => (ho.lt k e).1)
      have ho2 : w1.ownsRow B 5 1 v' (n + 2) (xs ++ octs y 4 2) := by
        rw [octs_succ, show byteAt y (8 * (4 - 1 - 1)) = (y / 65536 % 256) from by simp [byteAt] <;> omega]
        exact ho1
      clear ho1 hg1 ho HB
      go_wp2
      go_roundg (gk - 1)
      case measure => omega
      case rel => exact ⟨2, by omega, by omega, by go_num, ho2, HB1⟩
    · go_wp2_with (at_builtin; refine wpList_append_own _ rfl (.tmp 14) (.tmp 20) 30 rfl B 5 i0 (.int .u8 0) 1 1 Tryd.underlying30 hi hz0 hz1 hz2 rfl (by decide) _ _ _ rfl (ho.alloc _) ⟨wr.heap.size, 0, none⟩ 1 1 [.int .u8 (y / 256 % 256)] rfl rfl ?c1 ?c2 ?c3 ?c4 ?c5 ?_)
      case c1 =>
        intro j u hj
        match j, hj with
        | 0, hj => simp at hj; subst hj; simp [Addr.add]
      case c2 => intro u hu; simp at hu; subst hu; rfl
      case c3 => unfold maxLen; omega
      case c4 => omega
      case c5 => have := HB.size; simp; omega
      intro v' w1 ho1 hg1 _
      have HB1 : Below B w w1 := below_grow (HB.alloc (by have := HB.size; omega) _) hB hg1 (fun k e => (ho.lt k e).1)
      have ho2 : w1.ownsRow B 5 1 v' (n + 3) (xs ++ octs y 4 3) := by
        rw [octs_succ, show byteAt y (8 * (4 - 1 - 2)) = (y / 256 % 256) from by simp [byteAt] <;> omega]
        exact ho1
      clear ho1 hg1 ho HB
      go_wp2
      go_roundg (gk - 1)
      case measure => omega
      case rel => exact ⟨3, by omega, by omega, by go_num, ho2, HB1⟩
    · go_wp2_with (at_builtin; refine wpList_append_own _ rfl (.tmp 14) (.tmp 20) 30 rfl B 5 i0 (.int .u8 0) 1 1 Tryd.underlying30 hi hz0 hz1 hz2 rfl (by decide) _ _ _ rfl (ho.alloc _) ⟨wr.heap.size, 0, none⟩ 1 1 [.int .u8 (y % 256)] rfl rfl ?c1 ?c2 ?c3 ?c4 ?c5 ?_)
      case c1 =>
        intro j u hj
        match j, hj with
        | 0, hj => simp at hj; subst hj; simp [Addr.add]
      case c2 => intro u hu; simp at hu; subst hu; rfl
      case c3 => unfold maxLen; omega
      case c4 => omega
      case c5 => have := HB.size; simp; omega
      intro v' w1 ho1 hg1 _
      have HB1 : Below B w w1 := below_grow (HB.alloc (by have := HB.size; omega) _) hB hg1 (fun k e => (ho.lt k e).1)
      have ho2 : w1.ownsRow B 5 1 v' (n + 4) (xs ++ octs y 4 4) := by
        rw [octs_succ, show byteAt y (8 * (4 - 1 - 3)) = (y % 256) from by simp [byteAt] <;> omega]
        exact ho1
      clear ho1 hg1 ho HB
      go_wp2
      go_roundg (gk - 1)
      case measure => omega
      case rel => exact ⟨4, by omega, by omega, by go_num, ho2, HB1⟩
    · go_wp2
      go_ret
      exact ⟨_, rfl, ho, HB⟩
/-- A number's bytes are its pattern's bytes. -/
theorem byteAt_wrap (x : Int) (s : Nat) (hs : s ≤ 56) : byteAt (x % 18446744073709551616) s = byteAt x s := by
  unfold byteAt
  have hp : (0 : Int) < 2 ^ s := Int.pow_pos (by decide)
  have h64 : (18446744073709551616 : Int) = 2 ^ s * (2 ^ (56 - s) * 256) := by
    rw [← Int.mul_assoc, ← Int.pow_add, show s + (56 - s) = 56 by omega]
    decide
  have hx := Int.emod_add_mul_ediv x 18446744073709551616
  generalize x % 18446744073709551616 = y at hx
  generalize x / 18446744073709551616 = q at hx
  rw [← hx, h64, show y + 2 ^ s * (2 ^ (56 - s) * 256) * q = y + 2 ^ s * (2 ^ (56 - s) * 256 * q) by rw [Int.mul_assoc], Int.add_mul_ediv_left _ _ (by omega),
    show (2 : Int) ^ (56 - s) * 256 * q = 256 * (2 ^ (56 - s) * q) by rw [Int.mul_comm ((2 : Int) ^ (56 - s)) 256, Int.mul_assoc], Int.add_mul_emod_self_left]
theorem octs_wrap (x : Int) (k : Nat) (hk : k ≤ 8) : octs (x % 18446744073709551616) 8 k = octs x 8 k := by
  unfold octs
  apply List.map_congr_left
  intro j hj
  rw [byteAt_wrap _ _ (by omega)]
end Go.Proofs.YthafbdkjpgeopaaDoor
