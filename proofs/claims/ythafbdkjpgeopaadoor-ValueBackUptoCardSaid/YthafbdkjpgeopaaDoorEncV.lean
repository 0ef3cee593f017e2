/- The walks of value.Encode. -/
import Derived.Test.YthafbdkjpgeopaaDoorEncW
import Derived.Test.YthafbdkjpgeopaaDoorValC
import Derived.BigGuardPart
import Derived.Deep.RegionHeld3
set_option linter.unusedVariables false
set_option linter.unusedSimpArgs false
namespace Go.Proofs.YthafbdkjpgeopaaDoor
open Go.RowKit

/-- A new block changes nothing below. -/
theorem below_more' {B : Nat} {w W : World} (h : Below B w W) (hB : B ≤ W.heap.size) (o : Obj) : Below B w (W.alloc o) := h.alloc hB o
set_option maxRecDepth 100000 in
set_option maxHeartbeats 1600000 in
theorem enc_no (k : Int) (n : Int) (b : Bool) (s : ByteArray) (A : Option Addr) (p : List Int) (c : Nat) (w : World) (hR : ∀ W, Below w.heap.size w W → Calls Tryd.prog 22 #[.agg #[.int .i64 k, .bool b, .int .i64 n, .string s, .slice A p.length c]] W fun e w' => e = .returned (.bool false) ∧ Below W.heap.size W w') :
    Calls Tryd.prog 23 #[.agg #[.int .i64 k, .bool b, .int .i64 n, .string s, .slice A p.length c]] w fun e w' => ∃ v', e = .returned v' ∧ w'.ownsRow w.heap.size 5 1 v' (([] : List Value)).length (([] : List Value)) ∧ Below w.heap.size w w' := by
  go_enter Tryd.func23, Tryd.ntmps23
  go_wp2_with (go_at_call 22; refine (hR _ (below_more (Below.refl _ _) _)).mono ?_; rintro e w1 ⟨rfl, hb1⟩; have hz : w.heap.size < w1.heap.size := (by have := hb1.size; (try simp at this); omega); have hbx0 : ∀ i, w1.cell? ⟨w.heap.size, i, none⟩ = (#[.int .i64 k, .bool b, .int .i64 n, .string s, .slice A p.length c] : Array Value)[i]? := (fun i => (hb1.cell (p := ⟨w.heap.size, i, none⟩) (by first | omega | (simp; done) | (simp; omega))).trans (by simp [go_sem])); have HB : Below w.heap.size w w1 := below_then (below_more (Below.refl _ _) _) hb1; clear hb1)
  go_ret
  exact ⟨_, rfl, World.ownsRow_nil _ _ _ _, HB⟩

set_option maxRecDepth 100000 in
set_option maxHeartbeats 1600000 in
theorem enc_0 (n : Int) (b : Bool) (s : ByteArray) (A : Option Addr) (p : List Int) (c : Nat) (w : World) (hR : ∀ W, Below w.heap.size w W → Calls Tryd.prog 22 #[.agg #[.int .i64 0, .bool b, .int .i64 n, .string s, .slice A p.length c]] W fun e w' => e = .returned (.bool true) ∧ Below W.heap.size W w') :
    Calls Tryd.prog 23 #[.agg #[.int .i64 0, .bool b, .int .i64 n, .string s, .slice A p.length c]] w fun e w' => ∃ v', e = .returned v' ∧ w'.ownsRow w.heap.size 5 1 v' ([Value.int .u8 0]).length ([Value.int .u8 0]) ∧ Below w.heap.size w w' := by
  go_enter Tryd.func23, Tryd.ntmps23
  go_wp2_with (go_at_call 22; refine (hR _ (below_more (Below.refl _ _) _)).mono ?_; rintro e w1 ⟨rfl, hb1⟩; have hz : w.heap.size < w1.heap.size := (by have := hb1.size; (try simp at this); omega); have hbx0 : ∀ i, w1.cell? ⟨w.heap.size, i, none⟩ = (#[.int .i64 0, .bool b, .int .i64 n, .string s, .slice A p.length c] : Array Value)[i]? := (fun i => (hb1.cell (p := ⟨w.heap.size, i, none⟩) (by first | omega | (simp; done) | (simp; omega))).trans (by simp [go_sem])); have HB : Below w.heap.size w w1 := below_then (below_more (Below.refl _ _) _) hb1; clear hb1)
  go_ret
  exact ⟨_, rfl, own_one _ _ _ (by omega), below_more HB _⟩

set_option maxRecDepth 100000 in
set_option maxHeartbeats 1600000 in
theorem enc_1t (n : Int) (s : ByteArray) (A : Option Addr) (p : List Int) (c : Nat) (w : World) (hR : ∀ W, Below w.heap.size w W → Calls Tryd.prog 22 #[.agg #[.int .i64 1, .bool true, .int .i64 n, .string s, .slice A p.length c]] W fun e w' => e = .returned (.bool true) ∧ Below W.heap.size W w') :
    Calls Tryd.prog 23 #[.agg #[.int .i64 1, .bool true, .int .i64 n, .string s, .slice A p.length c]] w fun e w' => ∃ v', e = .returned v' ∧ w'.ownsRow w.heap.size 5 1 v' ([Value.int .u8 1] ++ [Value.int .u8 1]).length ([Value.int .u8 1] ++ [Value.int .u8 1]) ∧ Below w.heap.size w w' := by
  obtain ⟨i0, hi, hz0, hz1, hz2⟩ := info_parts info_u8
  go_enter Tryd.func23, Tryd.ntmps23
  go_wp2_with (first | (go_at_call 22; refine (hR _ (below_more (Below.refl _ _) _)).mono ?_; rintro e w1 ⟨rfl, hb1⟩; have hz : w.heap.size < w1.heap.size := (by have := hb1.size; (try simp at this); omega); have hbx0 : ∀ i, w1.cell? ⟨w.heap.size, i, none⟩ = (#[.int .i64 1, .bool true, .int .i64 n, .string s, .slice A p.length c] : Array Value)[i]? := (fun i => (hb1.cell (p := ⟨w.heap.size, i, none⟩) (by first | omega | (simp; done) | (simp; omega))).trans (by simp [go_sem])); have HB : Below w.heap.size w w1 := below_then (below_more (Below.refl _ _) _) hb1; clear hb1) | (at_builtin; refine wpList_append_own _ rfl (.tmp 20) (.tmp 21) 30 rfl (w.heap.size + 1) 5 i0 (.int .u8 0) 1 1 Tryd.underlying30 hi hz0 hz1 hz2 rfl (by decide) _ _ _ rfl ((own_one w1 (w.heap.size + 1) _ (by omega)).alloc _) ⟨w1.heap.size + 1, 0, none⟩ 1 1 [.int .u8 1] rfl rfl ?c1 ?c2 ?c3 ?c4 ?c5 ?_))
  case c1 =>
    intro j u hj
    match j, hj with
    | 0, hj => simp at hj; subst hj; simp [Addr.add]
  case c2 => intro u hu; simp at hu; subst hu; rfl
  case c3 => unfold maxLen; omega
  case c4 => omega
  case c5 => simp; omega
  intro v' w2 ho1 hg1 _
  have HB1 : Below (w.heap.size + 1) w1 w2 := below_grow (below_more' (below_more' (Below.refl _ _) (by omega) _) (by simp; omega) _) (by omega) hg1 (fun k e => (own_one w1 (w.heap.size + 1) (.int .u8 1) (by omega)).lt k e |>.1)
  have ho2 := own_base ho1 (show w.heap.size ≤ w.heap.size + 1 by omega)
  have HB2 := below_trans HB (below_base HB1 (show w.heap.size ≤ w.heap.size + 1 by omega))
  clear ho1 hg1 HB1 HB hbx0
  go_wp2
  go_ret
  exact ⟨_, rfl, ho2, HB2⟩

set_option maxRecDepth 100000 in
set_option maxHeartbeats 1600000 in
theorem enc_1f (n : Int) (s : ByteArray) (A : Option Addr) (p : List Int) (c : Nat) (w : World) (hR : ∀ W, Below w.heap.size w W → Calls Tryd.prog 22 #[.agg #[.int .i64 1, .bool false, .int .i64 n, .string s, .slice A p.length c]] W fun e w' => e = .returned (.bool true) ∧ Below W.heap.size W w') :
    Calls Tryd.prog 23 #[.agg #[.int .i64 1, .bool false, .int .i64 n, .string s, .slice A p.length c]] w fun e w' => ∃ v', e = .returned v' ∧ w'.ownsRow w.heap.size 5 1 v' ([Value.int .u8 1] ++ [Value.int .u8 0]).length ([Value.int .u8 1] ++ [Value.int .u8 0]) ∧ Below w.heap.size w w' := by
  obtain ⟨i0, hi, hz0, hz1, hz2⟩ := info_parts info_u8
  go_enter Tryd.func23, Tryd.ntmps23
  go_wp2_with (first | (go_at_call 22; refine (hR _ (below_more (Below.refl _ _) _)).mono ?_; rintro e w1 ⟨rfl, hb1⟩; have hz : w.heap.size < w1.heap.size := (by have := hb1.size; (try simp at this); omega); have hbx0 : ∀ i, w1.cell? ⟨w.heap.size, i, none⟩ = (#[.int .i64 1, .bool false, .int .i64 n, .string s, .slice A p.length c] : Array Value)[i]? := (fun i => (hb1.cell (p := ⟨w.heap.size, i, none⟩) (by first | omega | (simp; done) | (simp; omega))).trans (by simp [go_sem])); have HB : Below w.heap.size w w1 := below_then (below_more (Below.refl _ _) _) hb1; clear hb1) | (at_builtin; refine wpList_append_own _ rfl (.tmp 23) (.tmp 24) 30 rfl (w.heap.size + 1) 5 i0 (.int .u8 0) 1 1 Tryd.underlying30 hi hz0 hz1 hz2 rfl (by decide) _ _ _ rfl ((own_one w1 (w.heap.size + 1) _ (by omega)).alloc _) ⟨w1.heap.size + 1, 0, none⟩ 1 1 [.int .u8 0] rfl rfl ?c1 ?c2 ?c3 ?c4 ?c5 ?_))
  case c1 =>
    intro j u hj
    match j, hj with
    | 0, hj => simp at hj; subst hj; simp [Addr.add]
  case c2 => intro u hu; simp at hu; subst hu; rfl
  case c3 => unfold maxLen; omega
  case c4 => omega
  case c5 => simp; omega
  intro v' w2 ho1 hg1 _
  have HB1 : Below (w.heap.size + 1) w1 w2 := below_grow (below_more' (below_more' (Below.refl _ _) (by omega) _) (by simp; omega) _) (by omega) hg1 (fun k e => (own_one w1 (w.heap.size + 1) (.int .u8 1) (by omega)).lt k e |>.1)
  have ho2 := own_base ho1 (show w.heap.size ≤ w.heap.size + 1 by omega)
  have HB2 := below_trans HB (below_base HB1 (show w.heap.size ≤ w.heap.size + 1 by omega))
  clear ho1 hg1 HB1 HB hbx0
  go_wp2
  go_ret
  exact ⟨_, rfl, ho2, HB2⟩

set_option maxRecDepth 100000 in
set_option maxHeartbeats 1600000 in
theorem enc_2 (n : Int) (b : Bool) (s : ByteArray) (A : Option Addr) (p : List Int) (c : Nat) (w : World) (hR : ∀ W, Below w.heap.size w W → Calls Tryd.prog 22 #[.agg #[.int .i64 2, .bool b, .int .i64 n, .string s, .slice A p.length c]] W fun e w' => e = .returned (.bool true) ∧ Below W.heap.size W w') (hn : -9223372036854775808 ≤ n ∧ n ≤ 9223372036854775807) :
    Calls Tryd.prog 23 #[.agg #[.int .i64 2, .bool b, .int .i64 n, .string s, .slice A p.length c]] w fun e w' => ∃ v', e = .returned v' ∧ w'.ownsRow w.heap.size 5 1 v' ([Value.int .u8 2] ++ octs n 8 8).length ([Value.int .u8 2] ++ octs n 8 8) ∧ Below w.heap.size w w' := by
  go_enter Tryd.func23, Tryd.ntmps23
  go_wp2_with (first | (go_at_call 22; refine (hR _ (below_more (Below.refl _ _) _)).mono ?_; rintro e w1 ⟨rfl, hb1⟩; have hz : w.heap.size < w1.heap.size := (by have := hb1.size; (try simp at this); omega); have hbx0 : ∀ i, w1.cell? ⟨w.heap.size, i, none⟩ = (#[.int .i64 2, .bool b, .int .i64 n, .string s, .slice A p.length c] : Array Value)[i]? := (fun i => (hb1.cell (p := ⟨w.heap.size, i, none⟩) (by first | omega | (simp; done) | (simp; omega))).trans (by simp [go_sem])); have HB : Below w.heap.size w w1 := below_then (below_more (Below.refl _ _) _) hb1; clear hb1) | (go_at_call 55; refine (eight_any (w.heap.size + 1) _ 1 _ n _ (by omega) (by simp; omega) hn.1 hn.2 (own_one w1 (w.heap.size + 1) _ (by omega))).mono ?_; rintro e w2 ⟨v2, rfl, ho2, hb2⟩))
  go_ret
  exact ⟨_, rfl, by simpa [octs_length] using own_base ho2 (by omega), below_trans (below_more HB _) (below_base hb2 (by omega))⟩

set_option maxRecDepth 100000 in
set_option maxHeartbeats 1600000 in
theorem enc_4 (n : Int) (b : Bool) (s : ByteArray) (A : Option Addr) (p : List Int) (c : Nat) (w : World) (hR : ∀ W, Below w.heap.size w W → Calls Tryd.prog 22 #[.agg #[.int .i64 4, .bool b, .int .i64 n, .string s, .slice A p.length c]] W fun e w' => e = .returned (.bool true) ∧ Below W.heap.size W w') (hn : -9223372036854775808 ≤ n ∧ n ≤ 9223372036854775807) :
    Calls Tryd.prog 23 #[.agg #[.int .i64 4, .bool b, .int .i64 n, .string s, .slice A p.length c]] w fun e w' => ∃ v', e = .returned v' ∧ w'.ownsRow w.heap.size 5 1 v' ([Value.int .u8 4] ++ octs n 8 8).length ([Value.int .u8 4] ++ octs n 8 8) ∧ Below w.heap.size w w' := by
  go_enter Tryd.func23, Tryd.ntmps23
  go_wp2_with (first | (go_at_call 22; refine (hR _ (below_more (Below.refl _ _) _)).mono ?_; rintro e w1 ⟨rfl, hb1⟩; have hz : w.heap.size < w1.heap.size := (by have := hb1.size; (try simp at this); omega); have hbx0 : ∀ i, w1.cell? ⟨w.heap.size, i, none⟩ = (#[.int .i64 4, .bool b, .int .i64 n, .string s, .slice A p.length c] : Array Value)[i]? := (fun i => (hb1.cell (p := ⟨w.heap.size, i, none⟩) (by first | omega | (simp; done) | (simp; omega))).trans (by simp [go_sem])); have HB : Below w.heap.size w w1 := below_then (below_more (Below.refl _ _) _) hb1; clear hb1) | (go_at_call 55; refine (eight_any (w.heap.size + 1) _ 1 _ n _ (by omega) (by simp; omega) hn.1 hn.2 (own_one w1 (w.heap.size + 1) _ (by omega))).mono ?_; rintro e w2 ⟨v2, rfl, ho2, hb2⟩))
  go_ret
  exact ⟨_, rfl, by simpa [octs_length] using own_base ho2 (by omega), below_trans (below_more HB _) (below_base hb2 (by omega))⟩

set_option maxRecDepth 100000 in
set_option maxHeartbeats 1600000 in
theorem enc_5 (n : Int) (b : Bool) (s : ByteArray) (A : Option Addr) (p : List Int) (c : Nat) (w : World) (hR : ∀ W, Below w.heap.size w W → Calls Tryd.prog 22 #[.agg #[.int .i64 5, .bool b, .int .i64 n, .string s, .slice A p.length c]] W fun e w' => e = .returned (.bool true) ∧ Below W.heap.size W w') (hn : -9223372036854775808 ≤ n ∧ n ≤ 9223372036854775807) :
    Calls Tryd.prog 23 #[.agg #[.int .i64 5, .bool b, .int .i64 n, .string s, .slice A p.length c]] w fun e w' => ∃ v', e = .returned v' ∧ w'.ownsRow w.heap.size 5 1 v' ([Value.int .u8 5] ++ octs n 8 8).length ([Value.int .u8 5] ++ octs n 8 8) ∧ Below w.heap.size w w' := by
  go_enter Tryd.func23, Tryd.ntmps23
  go_wp2_with (first | (go_at_call 22; refine (hR _ (below_more (Below.refl _ _) _)).mono ?_; rintro e w1 ⟨rfl, hb1⟩; have hz : w.heap.size < w1.heap.size := (by have := hb1.size; (try simp at this); omega); have hbx0 : ∀ i, w1.cell? ⟨w.heap.size, i, none⟩ = (#[.int .i64 5, .bool b, .int .i64 n, .string s, .slice A p.length c] : Array Value)[i]? := (fun i => (hb1.cell (p := ⟨w.heap.size, i, none⟩) (by first | omega | (simp; done) | (simp; omega))).trans (by simp [go_sem])); have HB : Below w.heap.size w w1 := below_then (below_more (Below.refl _ _) _) hb1; clear hb1) | (go_at_call 55; refine (eight_any (w.heap.size + 1) _ 1 _ n _ (by omega) (by simp; omega) hn.1 hn.2 (own_one w1 (w.heap.size + 1) _ (by omega))).mono ?_; rintro e w2 ⟨v2, rfl, ho2, hb2⟩))
  go_ret
  exact ⟨_, rfl, by simpa [octs_length] using own_base ho2 (by omega), below_trans (below_more HB _) (below_base hb2 (by omega))⟩

set_option maxRecDepth 100000 in
set_option maxHeartbeats 1600000 in
theorem enc_3 (n : Int) (b : Bool) (s : ByteArray) (A : Option Addr) (p : List Int) (c : Nat) (w : World) (hR : ∀ W, Below w.heap.size w W → Calls Tryd.prog 22 #[.agg #[.int .i64 3, .bool b, .int .i64 n, .string s, .slice A p.length c]] W fun e w' => e = .returned (.bool true) ∧ Below W.heap.size W w') (hss : s.size ≤ 4096) :
    Calls Tryd.prog 23 #[.agg #[.int .i64 3, .bool b, .int .i64 n, .string s, .slice A p.length c]] w fun e w' => ∃ v', e = .returned v' ∧ w'.ownsRow w.heap.size 5 1 v' (encB 3 b n s p).length (encB 3 b n s p) ∧ Below w.heap.size w w' := by
  obtain ⟨i0, hi, hz0, hz1, hz2⟩ := info_parts info_u8
  rw [show encB 3 b n s p = [Value.int .u8 3] ++ octs s.size 4 4 ++ Lib.strCells s from rfl]
  have HS := Aside0.mk hss
  clear hss
  go_enter Tryd.func23, Tryd.ntmps23
  go_wp2_with (first | (go_at_call 22; refine (hR _ (below_more (Below.refl _ _) _)).mono ?_; rintro e w1 ⟨rfl, hb1⟩; have hz : w.heap.size < w1.heap.size := (by have := hb1.size; (try simp at this); omega); have hbx0 : ∀ i, w1.cell? ⟨w.heap.size, i, none⟩ = (#[.int .i64 3, .bool b, .int .i64 n, .string s, .slice A p.length c] : Array Value)[i]? := (fun i => (hb1.cell (p := ⟨w.heap.size, i, none⟩) (by first | omega | (simp; done) | (simp; omega))).trans (by simp [go_sem])); have HB : Below w.heap.size w w1 := below_then (below_more (Below.refl _ _) _) hb1; clear hb1))
  go_region_held3 (fun w' => w'.cell? ⟨w.heap.size, 3, none⟩ = some (.string s)) (first | go_keep | assumption) (first | (rw [if_pos (by rfl)]; refine wp_append_own _ (.tmp 39) (.tmp 51) 30 rfl (w.heap.size + 1) 5 i0 (.int .u8 0) 1 1 Tryd.underlying30 hi hz0 hz1 hz2 rfl (by decide) _ 1 [.int .u8 3] rfl ((own_one w1 (w.heap.size + 1) (.int .u8 3) (by omega)).alloc _) ⟨w1.heap.size + 1, 0, none⟩ 4 4 [.int .u8 (IntKind.u8.wrap ((s.size : Int) / 16777216)), .int .u8 (IntKind.u8.wrap ((s.size : Int) / 65536)), .int .u8 (IntKind.u8.wrap ((s.size : Int) / 256)), .int .u8 (IntKind.u8.wrap (s.size : Int))] rfl rfl (by intro j u hj; rcases j with _ | _ | _ | _ | j <;> simp at hj <;> (try subst hj) <;> simp [Addr.add]) (by intro u hu; simp at hu; rcases hu with rfl | rfl | rfl | rfl <;> rfl) (by unfold maxLen; omega) (by omega) (by simp; omega) ?_; intro v2 w2 ho1 hg1 _; have HBx : Below (w.heap.size + 1) w1 w2 := below_grow (by first | exact (below_more' (below_more' (Below.refl _ _) (by omega) _) (by simp; omega) _).drew | exact below_more' (below_more' (Below.refl _ _) (by omega) _).drew (by simp; omega) _) (by omega) hg1 (fun k e => (own_one w1 (w.heap.size + 1) (.int .u8 3) (by omega)).lt k e |>.1); have hk2 : w2.cell? ⟨w.heap.size, 3, none⟩ = some (.string s) := (HBx.cell (p := ⟨w.heap.size, 3, none⟩) (by simp)).trans (hbx0 3); have hsz2 := HBx.size; clear hg1) | (rw [if_pos (by rfl)]; refine wp_append_text (.tmp 52) (.tmp 54) 30 9 rfl (w.heap.size + 1) 5 i0 Tryd.underlying30 Tryd.underlying9 hi hz0 hz1 hz2 _ 5 _ rfl ho1 s rfl (by have := HS.out; unfold maxLen; omega) (by have := HS.out; omega) (by have := hsz2; omega) ?_; intro v3 w3 ho3 hg3; have HBy : Below (w.heap.size + 1) w2 w3 := below_grow (Below.refl _ _) (by have := hsz2; omega) hg3 (fun k e => (ho1.lt k e).1); have hk3 : w3.cell? ⟨w.heap.size, 3, none⟩ = some (.string s) := (HBy.cell (p := ⟨w.heap.size, 3, none⟩) (by simp)).trans hk2; clear hg3))
  go_wp2
  go_ret
  have hfin : w3.ownsRow w.heap.size 5 1 v3 (([Value.int .u8 3] ++ octs s.size 4 4 ++ Lib.strCells s).length) ([Value.int .u8 3] ++ octs s.size 4 4 ++ Lib.strCells s) := by
    rw [octs4, show ([Value.int .u8 3] ++ [Value.int .u8 (IntKind.u8.wrap ((s.size : Int) / 16777216)), .int .u8 (IntKind.u8.wrap ((s.size : Int) / 65536)), .int .u8 (IntKind.u8.wrap ((s.size : Int) / 256)), .int .u8 (IntKind.u8.wrap (s.size : Int))] ++ Lib.strCells s).length = 5 + s.size by simp [Lib.strCells_length]; omega]
    exact own_base ho3 (by omega)
  exact ⟨_, rfl, hfin, below_trans HB (below_trans (below_base HBx (by omega)) (below_base HBy (by omega)))⟩

set_option maxRecDepth 100000 in
set_option maxHeartbeats 1600000 in
theorem enc_6 (n : Int) (b : Bool) (s : ByteArray) (A : Option Addr) (p : List Int) (c : Nat) (w : World) (hR : ∀ W, Below w.heap.size w W → Calls Tryd.prog 22 #[.agg #[.int .i64 6, .bool b, .int .i64 n, .string s, .slice A p.length c]] W fun e w' => e = .returned (.bool true) ∧ Below W.heap.size W w') (hr : ReadsI w A p) (hl : p.length ≤ 9) (hel : ∀ y ∈ p, 0 ≤ y ∧ y ≤ 1099511627776) :
    Calls Tryd.prog 23 #[.agg #[.int .i64 6, .bool b, .int .i64 n, .string s, .slice A p.length c]] w fun e w' => ∃ v', e = .returned v' ∧ w'.ownsRow w.heap.size 5 1 v' (encB 6 b n s p).length (encB 6 b n s p) ∧ Below w.heap.size w w' := by
  obtain ⟨i0, hi, hz0, hz1, hz2⟩ := info_parts info_u8
  obtain ⟨m, hm⟩ : ∃ m, m = p.length := ⟨_, rfl⟩
  rw [show encB 6 b n s p = [Value.int .u8 6] ++ [Value.int .u8 (p.length : Int)] ++ octL p from rfl]
  rw [← hm] at hl hR ⊢
  have HM := Aside0.mk hm
  have HRD := Aside0.mk hr
  have HE := Aside0.mk hel
  have hlen : (([Value.int .u8 6] ++ [Value.int .u8 (m : Int)] ++ octL p).length) = 2 + 8 * m := by simp [octL_length, ← hm]; omega
  rw [hlen]
  clear hm hr hel hlen
  go_enter Tryd.func23, Tryd.ntmps23
  go_wp2_with (first | (go_at_call 22; refine (hR _ (below_more (Below.refl _ _) _)).mono ?_; rintro e w1 ⟨rfl, hb1⟩; have hz : w.heap.size < w1.heap.size := (by have := hb1.size; (try simp at this); omega); have hbx0 : ∀ i, w1.cell? ⟨w.heap.size, i, none⟩ = (#[.int .i64 6, .bool b, .int .i64 n, .string s, .slice A m c] : Array Value)[i]? := (fun i => (hb1.cell (p := ⟨w.heap.size, i, none⟩) (by first | omega | (simp; done) | (simp; omega))).trans (by simp [go_sem])); have HB : Below w.heap.size w w1 := below_then (below_more (Below.refl _ _) _) hb1; clear hb1) | (at_builtin; refine wpList_append_own _ rfl (.tmp 58) (.tmp 63) 30 rfl (w.heap.size + 1) 5 i0 (.int .u8 0) 1 1 Tryd.underlying30 hi hz0 hz1 hz2 rfl (by decide) _ _ _ rfl ((own_one w1 (w.heap.size + 1) _ (by omega)).alloc _) ⟨w1.heap.size + 1, 0, none⟩ 1 1 [.int .u8 (m : Int)] rfl rfl ?c1 ?c2 ?c3 ?c4 ?c5 ?_))
  case c1 =>
    intro j u hj
    match j, hj with
    | 0, hj => simp at hj; subst hj; simp [Addr.add]
  case c2 => intro u hu; simp at hu; subst hu; rfl
  case c3 => unfold maxLen; omega
  case c4 => omega
  case c5 => simp; omega
  intro v' w2 ho1 hg1 _
  have HB1 : Below (w.heap.size + 1) w1 w2 := below_grow (below_more' (below_more' (Below.refl _ _) (by omega) _) (by simp; omega) _) (by omega) hg1 (fun k e => (own_one w1 (w.heap.size + 1) (.int .u8 6) (by omega)).lt k e |>.1)
  have ho2 : w2.ownsRow (w.heap.size + 1) 5 1 v' 2 ([Value.int .u8 6] ++ [Value.int .u8 (m : Int)]) := ho1
  have HB2 := below_trans HB (below_base HB1 (show w.heap.size ≤ w.heap.size + 1 by omega))
  have hz2 : w.heap.size + 1 ≤ w2.heap.size := by have := HB1.size; omega
  have hbx : ∀ i, w2.cell? ⟨w.heap.size, i, none⟩ = (#[.int .i64 6, .bool b, .int .i64 n, .string s, .slice A m c] : Array Value)[i]? := fun i => (HB1.cell (p := ⟨w.heap.size, i, none⟩) (by simp)).trans (hbx0 i)
  clear ho1 hg1 HB1 HB hbx0
  go_wp2
  go_loopg [3, 68] (m + 1) (fun gg s3 s68 wr => ∃ k : Nat, k ≤ m ∧ m < gg + k ∧ s68 = .int .i64 k ∧ wr.ownsRow (w.heap.size + 1) 5 1 s3 (2 + 8 * k) ([Value.int .u8 6] ++ [Value.int .u8 (m : Int)] ++ octL (p.take k)) ∧ Below (w.heap.size + 1) w2 wr)
  case atStart => exact ⟨0, Nat.zero_le _, by omega, rfl, by simpa [octL] using ho2, Below.refl _ _⟩
  case round =>
    obtain ⟨k, hk, hg, rfl, ho, HBr⟩ := hrel
    have hzr : w.heap.size + 1 ≤ wr.heap.size := by have := HBr.size; omega
    have hbr : ∀ i, wr.cell? ⟨w.heap.size, i, none⟩ = (#[.int .i64 6, .bool b, .int .i64 n, .string s, .slice A m c] : Array Value)[i]? := fun i => (HBr.cell (p := ⟨w.heap.size, i, none⟩) (by simp)).trans (hbx i)
    clear ho2 hbx
    have HBw := below_trans HB2 (below_base HBr (show w.heap.size ≤ w.heap.size + 1 by omega))
    clear HB2
    by_cases hlt : k < m
    · have hlti : (k : Int) < (m : Int) := by omega
      have hk0 : (0 : Int) ≤ (k : Int) := by omega
      obtain ⟨ad, rfl, hcell⟩ := (HRD.out.below HBw).at_ k (by have := HM.out; omega)
      have hy := HE.out (p.getD k 0) (by rw [List.getD_eq_getElem?_getD, List.getElem?_eq_getElem (by have := HM.out; omega)]; exact List.getElem_mem _)
      have hoc := octL_take p k (by have := HM.out; omega)
      generalize p.getD k 0 = y at hcell hoc hy
      have HO := Aside0.mk hoc
      clear hoc
      go_wp2_with (first | (go_at_call 55; refine (eight_any (w.heap.size + 1) _ (2 + 8 * k) _ y _ (by omega) (by omega) (by omega) (by omega) ho).mono ?_; rintro e w3 ⟨v3, rfl, ho3, hb3⟩))
      have ho4 : w3.ownsRow (w.heap.size + 1) 5 1 v3 (2 + 8 * (k + 1)) ([Value.int .u8 6] ++ [Value.int .u8 (m : Int)] ++ octL (p.take (k + 1))) := by
        rw [HO.out, ← List.append_assoc]
        exact ho3
      have HB4 := below_trans HBr hb3
      clear ho3 hb3 ho HBr hbr
      go_wp2
      go_roundg (gk - 1)
      case measure => omega
      case rel => exact ⟨k + 1, by omega, by omega, by go_num, ho4, HB4⟩
    · obtain rfl : k = m := by omega
      rw [show p.take k = p by rw [HM.out]; exact List.take_length] at ho
      clear hlt
      go_wp2
      go_ret
      exact ⟨_, rfl, own_base ho (by omega), HBw⟩
end Go.Proofs.YthafbdkjpgeopaaDoor
