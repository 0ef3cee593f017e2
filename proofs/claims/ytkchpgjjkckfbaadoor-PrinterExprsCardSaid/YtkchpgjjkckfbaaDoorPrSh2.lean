/- The walks of value.Show, kind by kind, but for paths. The walks of the document's Show, kind by kind, but for paths. -/
import Derived.Test.YtkchpgjjkckfbaaDoorValC
import Derived.BigGuardPart
set_option linter.unusedVariables false
set_option linter.unusedSimpArgs false
namespace Go.Proofs.YtkchpgjjkckfbaaDoor
open Go.RowKit

theorem cat1 (x : UInt8) (l : List UInt8) : (⟨#[x]⟩ : ByteArray) ++ ⟨l.toArray⟩ = ⟨(x :: l).toArray⟩ := by
  apply ByteArray.ext
  simp
set_option maxRecDepth 100000 in
theorem fbool_t (w : World) : Calls Tryd.prog 92 #[.bool true] w fun e w' => e = .returned (.string ⟨([116, 114, 117, 101] : List UInt8).toArray⟩) ∧ Below w.heap.size w w' := by
  have h : Calls Tryd.prog 116 #[.bool true] w fun e w' => e = .returned (.string ⟨#[116, 114, 117, 101]⟩) ∧ w = w' := by
    go_enter Tryd.func116, Tryd.ntmps116
    go_wp2
    go_ret
    exact ⟨rfl, rfl⟩
  go_enter Tryd.func92, Tryd.ntmps92
  go_wp2_with (go_at_call 116; refine h.mono ?_; rintro e w1 ⟨rfl, rfl⟩)
  go_ret
  exact ⟨rfl, Below.refl _ _⟩
set_option maxRecDepth 100000 in
theorem fbool_f (w : World) : Calls Tryd.prog 92 #[.bool false] w fun e w' => e = .returned (.string ⟨([102, 97, 108, 115, 101] : List UInt8).toArray⟩) ∧ Below w.heap.size w w' := by
  have h : Calls Tryd.prog 116 #[.bool false] w fun e w' => e = .returned (.string ⟨#[102, 97, 108, 115, 101]⟩) ∧ w = w' := by
    go_enter Tryd.func116, Tryd.ntmps116
    go_wp2
    go_ret
    exact ⟨rfl, rfl⟩
  go_enter Tryd.func92, Tryd.ntmps92
  go_wp2_with (go_at_call 116; refine h.mono ?_; rintro e w1 ⟨rfl, rfl⟩)
  go_ret
  exact ⟨rfl, Below.refl _ _⟩

set_option maxRecDepth 100000 in
set_option maxHeartbeats 1600000 in
theorem sho_no (k : Int) (n : Int) (b : Bool) (s : ByteArray) (A : Option Addr) (p : List Int) (c : Nat) (w : World) (hR : ∀ W, Below w.heap.size w W → Calls Tryd.prog 61 #[.agg #[.int .i64 k, .bool b, .int .i64 n, .string s, .slice A p.length c]] W fun e w' => e = .returned (.bool false) ∧ Below W.heap.size W w') :
    Calls Tryd.prog 62 #[.agg #[.int .i64 k, .bool b, .int .i64 n, .string s, .slice A p.length c]] w fun e w' => e = .returned (.string ⟨([102, 97, 117, 108, 116]).toArray⟩) ∧ Below w.heap.size w w' := by
  go_enter Tryd.func62, Tryd.ntmps62
  go_wp2_with (first | (go_at_call 61; refine (hR _ (by repeat (first | exact Below.refl _ _ | assumption | apply below_more))).mono ?_; rintro e w1 ⟨rfl, hb1⟩; have hz : w.heap.size < w1.heap.size := (by have := hb1.size; (try simp at this); omega); have hbx0 : ∀ i, w1.cell? ⟨w.heap.size, i, none⟩ = (#[.int .i64 k, .bool b, .int .i64 n, .string s, .slice A p.length c] : Array Value)[i]? := (fun i => (hb1.cell (p := ⟨w.heap.size, i, none⟩) (by first | omega | (simp; done) | (simp; omega))).trans (by first | exact hbx0 i | simp [go_sem])); have HB : Below w.heap.size w w1 := below_then (by repeat (first | exact Below.refl _ _ | assumption | apply below_more)) hb1; clear hb1))
  go_ret
  exact ⟨rfl, HB⟩

set_option maxRecDepth 100000 in
set_option maxHeartbeats 1600000 in
theorem sho_0 (n : Int) (b : Bool) (s : ByteArray) (A : Option Addr) (p : List Int) (c : Nat) (w : World) (hR : ∀ W, Below w.heap.size w W → Calls Tryd.prog 61 #[.agg #[.int .i64 0, .bool b, .int .i64 n, .string s, .slice A p.length c]] W fun e w' => e = .returned (.bool true) ∧ Below W.heap.size W w') :
    Calls Tryd.prog 62 #[.agg #[.int .i64 0, .bool b, .int .i64 n, .string s, .slice A p.length c]] w fun e w' => e = .returned (.string ⟨([110, 117, 108, 108]).toArray⟩) ∧ Below w.heap.size w w' := by
  go_enter Tryd.func62, Tryd.ntmps62
  go_wp2_with (first | (go_at_call 61; refine (hR _ (by repeat (first | exact Below.refl _ _ | assumption | apply below_more))).mono ?_; rintro e w1 ⟨rfl, hb1⟩; have hz : w.heap.size < w1.heap.size := (by have := hb1.size; (try simp at this); omega); have hbx0 : ∀ i, w1.cell? ⟨w.heap.size, i, none⟩ = (#[.int .i64 0, .bool b, .int .i64 n, .string s, .slice A p.length c] : Array Value)[i]? := (fun i => (hb1.cell (p := ⟨w.heap.size, i, none⟩) (by first | omega | (simp; done) | (simp; omega))).trans (by first | exact hbx0 i | simp [go_sem])); have HB : Below w.heap.size w w1 := below_then (by repeat (first | exact Below.refl _ _ | assumption | apply below_more)) hb1; clear hb1))
  go_ret
  exact ⟨rfl, HB⟩

set_option maxRecDepth 100000 in
set_option maxHeartbeats 1600000 in
theorem sho_1t (n : Int) (s : ByteArray) (A : Option Addr) (p : List Int) (c : Nat) (w : World) (hR : ∀ W, Below w.heap.size w W → Calls Tryd.prog 61 #[.agg #[.int .i64 1, .bool true, .int .i64 n, .string s, .slice A p.length c]] W fun e w' => e = .returned (.bool true) ∧ Below W.heap.size W w') :
    Calls Tryd.prog 62 #[.agg #[.int .i64 1, .bool true, .int .i64 n, .string s, .slice A p.length c]] w fun e w' => e = .returned (.string ⟨([116, 114, 117, 101]).toArray⟩) ∧ Below w.heap.size w w' := by
  go_enter Tryd.func62, Tryd.ntmps62
  go_wp2_with (first | (go_at_call 61; refine (hR _ (by repeat (first | exact Below.refl _ _ | assumption | apply below_more))).mono ?_; rintro e w1 ⟨rfl, hb1⟩; have hz : w.heap.size < w1.heap.size := (by have := hb1.size; (try simp at this); omega); have hbx0 : ∀ i, w1.cell? ⟨w.heap.size, i, none⟩ = (#[.int .i64 1, .bool true, .int .i64 n, .string s, .slice A p.length c] : Array Value)[i]? := (fun i => (hb1.cell (p := ⟨w.heap.size, i, none⟩) (by first | omega | (simp; done) | (simp; omega))).trans (by first | exact hbx0 i | simp [go_sem])); have HB : Below w.heap.size w w1 := below_then (by repeat (first | exact Below.refl _ _ | assumption | apply below_more)) hb1; clear hb1) | (go_at_call 92; refine (fbool_t _).mono ?_; rintro e w1 ⟨rfl, hb1⟩; have hz : w.heap.size < w1.heap.size := (by have := hb1.size; (try simp at this); omega); have hbx0 : ∀ i, w1.cell? ⟨w.heap.size, i, none⟩ = (#[.int .i64 1, .bool true, .int .i64 n, .string s, .slice A p.length c] : Array Value)[i]? := (fun i => (hb1.cell (p := ⟨w.heap.size, i, none⟩) (by first | omega | (simp; done) | (simp; omega))).trans (by first | exact hbx0 i | simp [go_sem])); have HB : Below w.heap.size w w1 := below_then (by repeat (first | exact Below.refl _ _ | assumption | apply below_more)) hb1; clear hb1))
  go_ret
  exact ⟨rfl, HB⟩

set_option maxRecDepth 100000 in
set_option maxHeartbeats 1600000 in
theorem sho_1f (n : Int) (s : ByteArray) (A : Option Addr) (p : List Int) (c : Nat) (w : World) (hR : ∀ W, Below w.heap.size w W → Calls Tryd.prog 61 #[.agg #[.int .i64 1, .bool false, .int .i64 n, .string s, .slice A p.length c]] W fun e w' => e = .returned (.bool true) ∧ Below W.heap.size W w') :
    Calls Tryd.prog 62 #[.agg #[.int .i64 1, .bool false, .int .i64 n, .string s, .slice A p.length c]] w fun e w' => e = .returned (.string ⟨([102, 97, 108, 115, 101]).toArray⟩) ∧ Below w.heap.size w w' := by
  go_enter Tryd.func62, Tryd.ntmps62
  go_wp2_with (first | (go_at_call 61; refine (hR _ (by repeat (first | exact Below.refl _ _ | assumption | apply below_more))).mono ?_; rintro e w1 ⟨rfl, hb1⟩; have hz : w.heap.size < w1.heap.size := (by have := hb1.size; (try simp at this); omega); have hbx0 : ∀ i, w1.cell? ⟨w.heap.size, i, none⟩ = (#[.int .i64 1, .bool false, .int .i64 n, .string s, .slice A p.length c] : Array Value)[i]? := (fun i => (hb1.cell (p := ⟨w.heap.size, i, none⟩) (by first | omega | (simp; done) | (simp; omega))).trans (by first | exact hbx0 i | simp [go_sem])); have HB : Below w.heap.size w w1 := below_then (by repeat (first | exact Below.refl _ _ | assumption | apply below_more)) hb1; clear hb1) | (go_at_call 92; refine (fbool_f _).mono ?_; rintro e w1 ⟨rfl, hb1⟩; have hz : w.heap.size < w1.heap.size := (by have := hb1.size; (try simp at this); omega); have hbx0 : ∀ i, w1.cell? ⟨w.heap.size, i, none⟩ = (#[.int .i64 1, .bool false, .int .i64 n, .string s, .slice A p.length c] : Array Value)[i]? := (fun i => (hb1.cell (p := ⟨w.heap.size, i, none⟩) (by first | omega | (simp; done) | (simp; omega))).trans (by first | exact hbx0 i | simp [go_sem])); have HB : Below w.heap.size w w1 := below_then (by repeat (first | exact Below.refl _ _ | assumption | apply below_more)) hb1; clear hb1))
  go_ret
  exact ⟨rfl, HB⟩

set_option maxRecDepth 100000 in
set_option maxHeartbeats 1600000 in
theorem sho_2 (n : Int) (b : Bool) (s : ByteArray) (A : Option Addr) (p : List Int) (c : Nat) (w : World) (hR : ∀ W, Below w.heap.size w W → Calls Tryd.prog 61 #[.agg #[.int .i64 2, .bool b, .int .i64 n, .string s, .slice A p.length c]] W fun e w' => e = .returned (.bool true) ∧ Below W.heap.size W w') (l : List UInt8) (hF : ∀ W, Below w.heap.size w W → Calls Tryd.prog 93 #[.int .i64 n, .int .i64 10] W fun e w' => e = .returned (.string ⟨l.toArray⟩) ∧ Below W.heap.size W w'):
    Calls Tryd.prog 62 #[.agg #[.int .i64 2, .bool b, .int .i64 n, .string s, .slice A p.length c]] w fun e w' => e = .returned (.string ⟨(l).toArray⟩) ∧ Below w.heap.size w w' := by
  go_enter Tryd.func62, Tryd.ntmps62
  go_wp2_with (first | (go_at_call 61; refine (hR _ (by repeat (first | exact Below.refl _ _ | assumption | apply below_more))).mono ?_; rintro e w1 ⟨rfl, hb1⟩; have hz : w.heap.size < w1.heap.size := (by have := hb1.size; (try simp at this); omega); have hbx0 : ∀ i, w1.cell? ⟨w.heap.size, i, none⟩ = (#[.int .i64 2, .bool b, .int .i64 n, .string s, .slice A p.length c] : Array Value)[i]? := (fun i => (hb1.cell (p := ⟨w.heap.size, i, none⟩) (by first | omega | (simp; done) | (simp; omega))).trans (by first | exact hbx0 i | simp [go_sem])); have HB : Below w.heap.size w w1 := below_then (by repeat (first | exact Below.refl _ _ | assumption | apply below_more)) hb1; clear hb1) | (go_at_call 93; refine (hF _ (by repeat (first | exact Below.refl _ _ | assumption | apply below_more))).mono ?_; rintro e w1 ⟨rfl, hb1⟩; have hz : w.heap.size < w1.heap.size := (by have := hb1.size; (try simp at this); omega); have hbx0 : ∀ i, w1.cell? ⟨w.heap.size, i, none⟩ = (#[.int .i64 2, .bool b, .int .i64 n, .string s, .slice A p.length c] : Array Value)[i]? := (fun i => (hb1.cell (p := ⟨w.heap.size, i, none⟩) (by first | omega | (simp; done) | (simp; omega))).trans (by first | exact hbx0 i | simp [go_sem])); have HB : Below w.heap.size w w1 := below_then (by repeat (first | exact Below.refl _ _ | assumption | apply below_more)) hb1; clear hb1))
  go_ret
  exact ⟨rfl, HB⟩

set_option maxRecDepth 100000 in
set_option maxHeartbeats 1600000 in
theorem sho_3 (n : Int) (b : Bool) (s : ByteArray) (A : Option Addr) (p : List Int) (c : Nat) (w : World) (hR : ∀ W, Below w.heap.size w W → Calls Tryd.prog 61 #[.agg #[.int .i64 3, .bool b, .int .i64 n, .string s, .slice A p.length c]] W fun e w' => e = .returned (.bool true) ∧ Below W.heap.size W w') (q : List UInt8) (hQ : ∀ W, Calls Tryd.prog 94 #[.string s] W fun e w' => e = .returned (.string ⟨q.toArray⟩) ∧ Below W.heap.size W w'):
    Calls Tryd.prog 62 #[.agg #[.int .i64 3, .bool b, .int .i64 n, .string s, .slice A p.length c]] w fun e w' => e = .returned (.string ⟨(q).toArray⟩) ∧ Below w.heap.size w w' := by
  go_enter Tryd.func62, Tryd.ntmps62
  go_wp2_with (first | (go_at_call 61; refine (hR _ (by repeat (first | exact Below.refl _ _ | assumption | apply below_more))).mono ?_; rintro e w1 ⟨rfl, hb1⟩; have hz : w.heap.size < w1.heap.size := (by have := hb1.size; (try simp at this); omega); have hbx0 : ∀ i, w1.cell? ⟨w.heap.size, i, none⟩ = (#[.int .i64 3, .bool b, .int .i64 n, .string s, .slice A p.length c] : Array Value)[i]? := (fun i => (hb1.cell (p := ⟨w.heap.size, i, none⟩) (by first | omega | (simp; done) | (simp; omega))).trans (by first | exact hbx0 i | simp [go_sem])); have HB : Below w.heap.size w w1 := below_then (by repeat (first | exact Below.refl _ _ | assumption | apply below_more)) hb1; clear hb1) | (go_at_call 94; refine (hQ _).mono ?_; rintro e w1 ⟨rfl, hb1⟩; have hz : w.heap.size < w1.heap.size := (by have := hb1.size; (try simp at this); omega); have hbx0 : ∀ i, w1.cell? ⟨w.heap.size, i, none⟩ = (#[.int .i64 3, .bool b, .int .i64 n, .string s, .slice A p.length c] : Array Value)[i]? := (fun i => (hb1.cell (p := ⟨w.heap.size, i, none⟩) (by first | omega | (simp; done) | (simp; omega))).trans (by first | exact hbx0 i | simp [go_sem])); have HB : Below w.heap.size w w1 := below_then (by repeat (first | exact Below.refl _ _ | assumption | apply below_more)) hb1; clear hb1))
  go_ret
  exact ⟨rfl, HB⟩

set_option maxRecDepth 100000 in
set_option maxHeartbeats 1600000 in
theorem sho_4 (n : Int) (b : Bool) (s : ByteArray) (A : Option Addr) (p : List Int) (c : Nat) (w : World) (hR : ∀ W, Below w.heap.size w W → Calls Tryd.prog 61 #[.agg #[.int .i64 4, .bool b, .int .i64 n, .string s, .slice A p.length c]] W fun e w' => e = .returned (.bool true) ∧ Below W.heap.size W w') (l : List UInt8) (hF : ∀ W, Below w.heap.size w W → Calls Tryd.prog 93 #[.int .i64 n, .int .i64 10] W fun e w' => e = .returned (.string ⟨l.toArray⟩) ∧ Below W.heap.size W w') (hl : l.length ≤ 1000):
    Calls Tryd.prog 62 #[.agg #[.int .i64 4, .bool b, .int .i64 n, .string s, .slice A p.length c]] w fun e w' => e = .returned (.string ⟨(35 :: l).toArray⟩) ∧ Below w.heap.size w w' := by
  have hlim : ¬ 9223372036854775807 < 1 + l.length := by omega
  clear hl
  go_enter Tryd.func62, Tryd.ntmps62
  go_wp2_with (first | (go_at_call 61; refine (hR _ (by repeat (first | exact Below.refl _ _ | assumption | apply below_more))).mono ?_; rintro e w1 ⟨rfl, hb1⟩; have hz : w.heap.size < w1.heap.size := (by have := hb1.size; (try simp at this); omega); have hbx0 : ∀ i, w1.cell? ⟨w.heap.size, i, none⟩ = (#[.int .i64 4, .bool b, .int .i64 n, .string s, .slice A p.length c] : Array Value)[i]? := (fun i => (hb1.cell (p := ⟨w.heap.size, i, none⟩) (by first | omega | (simp; done) | (simp; omega))).trans (by first | exact hbx0 i | simp [go_sem])); have HB : Below w.heap.size w w1 := below_then (by repeat (first | exact Below.refl _ _ | assumption | apply below_more)) hb1; clear hb1) | (go_at_call 93; refine (hF _ (by repeat (first | exact Below.refl _ _ | assumption | apply below_more))).mono ?_; rintro e w1 ⟨rfl, hb1⟩; have hz : w.heap.size < w1.heap.size := (by have := hb1.size; (try simp at this); omega); have hbx0 : ∀ i, w1.cell? ⟨w.heap.size, i, none⟩ = (#[.int .i64 4, .bool b, .int .i64 n, .string s, .slice A p.length c] : Array Value)[i]? := (fun i => (hb1.cell (p := ⟨w.heap.size, i, none⟩) (by first | omega | (simp; done) | (simp; omega))).trans (by first | exact hbx0 i | simp [go_sem])); have HB : Below w.heap.size w w1 := below_then (by repeat (first | exact Below.refl _ _ | assumption | apply below_more)) hb1; clear hb1))
  go_ret
  exact ⟨congrArg (fun x => Ending.returned (Value.string x)) (cat1 _ l), HB⟩

set_option maxRecDepth 100000 in
set_option maxHeartbeats 1600000 in
theorem sho_5 (n : Int) (b : Bool) (s : ByteArray) (A : Option Addr) (p : List Int) (c : Nat) (w : World) (hR : ∀ W, Below w.heap.size w W → Calls Tryd.prog 61 #[.agg #[.int .i64 5, .bool b, .int .i64 n, .string s, .slice A p.length c]] W fun e w' => e = .returned (.bool true) ∧ Below W.heap.size W w') (l : List UInt8) (hF : ∀ W, Below w.heap.size w W → Calls Tryd.prog 93 #[.int .i64 n, .int .i64 10] W fun e w' => e = .returned (.string ⟨l.toArray⟩) ∧ Below W.heap.size W w') (hl : l.length ≤ 1000):
    Calls Tryd.prog 62 #[.agg #[.int .i64 5, .bool b, .int .i64 n, .string s, .slice A p.length c]] w fun e w' => e = .returned (.string ⟨(64 :: l).toArray⟩) ∧ Below w.heap.size w w' := by
  have hlim : ¬ 9223372036854775807 < 1 + l.length := by omega
  clear hl
  go_enter Tryd.func62, Tryd.ntmps62
  go_wp2_with (first | (go_at_call 61; refine (hR _ (by repeat (first | exact Below.refl _ _ | assumption | apply below_more))).mono ?_; rintro e w1 ⟨rfl, hb1⟩; have hz : w.heap.size < w1.heap.size := (by have := hb1.size; (try simp at this); omega); have hbx0 : ∀ i, w1.cell? ⟨w.heap.size, i, none⟩ = (#[.int .i64 5, .bool b, .int .i64 n, .string s, .slice A p.length c] : Array Value)[i]? := (fun i => (hb1.cell (p := ⟨w.heap.size, i, none⟩) (by first | omega | (simp; done) | (simp; omega))).trans (by first | exact hbx0 i | simp [go_sem])); have HB : Below w.heap.size w w1 := below_then (by repeat (first | exact Below.refl _ _ | assumption | apply below_more)) hb1; clear hb1) | (go_at_call 93; refine (hF _ (by repeat (first | exact Below.refl _ _ | assumption | apply below_more))).mono ?_; rintro e w1 ⟨rfl, hb1⟩; have hz : w.heap.size < w1.heap.size := (by have := hb1.size; (try simp at this); omega); have hbx0 : ∀ i, w1.cell? ⟨w.heap.size, i, none⟩ = (#[.int .i64 5, .bool b, .int .i64 n, .string s, .slice A p.length c] : Array Value)[i]? := (fun i => (hb1.cell (p := ⟨w.heap.size, i, none⟩) (by first | omega | (simp; done) | (simp; omega))).trans (by first | exact hbx0 i | simp [go_sem])); have HB : Below w.heap.size w w1 := below_then (by repeat (first | exact Below.refl _ _ | assumption | apply below_more)) hb1; clear hb1))
  go_ret
  exact ⟨congrArg (fun x => Ending.returned (Value.string x)) (cat1 _ l), HB⟩
set_option maxRecDepth 100000 in
set_option maxHeartbeats 1600000 in
theorem rsho_no (k : Int) (n : Int) (b : Bool) (s : ByteArray) (A : Option Addr) (p : List Int) (c : Nat) (w : World) (hR : ∀ W, Below w.heap.size w W → Calls Tryd.prog 64 #[.agg #[.int .i64 k, .bool b, .int .i64 n, .string s, .slice A p.length c]] W fun e w' => e = .returned (.bool false) ∧ Below W.heap.size W w') :
    Calls Tryd.prog 65 #[.agg #[.int .i64 k, .bool b, .int .i64 n, .string s, .slice A p.length c]] w fun e w' => e = .returned (.string ⟨([102, 97, 117, 108, 116]).toArray⟩) ∧ Below w.heap.size w w' := by
  go_enter Tryd.func65, Tryd.ntmps65
  go_wp2_with (first | (go_at_call 64; refine (hR _ (by repeat (first | exact Below.refl _ _ | assumption | apply below_more))).mono ?_; rintro e w1 ⟨rfl, hb1⟩; have hz : w.heap.size < w1.heap.size := (by have := hb1.size; (try simp at this); omega); have hbx0 : ∀ i, w1.cell? ⟨w.heap.size, i, none⟩ = (#[.int .i64 k, .bool b, .int .i64 n, .string s, .slice A p.length c] : Array Value)[i]? := (fun i => (hb1.cell (p := ⟨w.heap.size, i, none⟩) (by first | omega | (simp; done) | (simp; omega))).trans (by first | exact hbx0 i | simp [go_sem])); have HB : Below w.heap.size w w1 := below_then (by repeat (first | exact Below.refl _ _ | assumption | apply below_more)) hb1; clear hb1))
  go_ret
  exact ⟨rfl, HB⟩

set_option maxRecDepth 100000 in
set_option maxHeartbeats 1600000 in
theorem rsho_0 (n : Int) (b : Bool) (s : ByteArray) (A : Option Addr) (p : List Int) (c : Nat) (w : World) (hR : ∀ W, Below w.heap.size w W → Calls Tryd.prog 64 #[.agg #[.int .i64 0, .bool b, .int .i64 n, .string s, .slice A p.length c]] W fun e w' => e = .returned (.bool true) ∧ Below W.heap.size W w') :
    Calls Tryd.prog 65 #[.agg #[.int .i64 0, .bool b, .int .i64 n, .string s, .slice A p.length c]] w fun e w' => e = .returned (.string ⟨([110, 117, 108, 108]).toArray⟩) ∧ Below w.heap.size w w' := by
  go_enter Tryd.func65, Tryd.ntmps65
  go_wp2_with (first | (go_at_call 64; refine (hR _ (by repeat (first | exact Below.refl _ _ | assumption | apply below_more))).mono ?_; rintro e w1 ⟨rfl, hb1⟩; have hz : w.heap.size < w1.heap.size := (by have := hb1.size; (try simp at this); omega); have hbx0 : ∀ i, w1.cell? ⟨w.heap.size, i, none⟩ = (#[.int .i64 0, .bool b, .int .i64 n, .string s, .slice A p.length c] : Array Value)[i]? := (fun i => (hb1.cell (p := ⟨w.heap.size, i, none⟩) (by first | omega | (simp; done) | (simp; omega))).trans (by first | exact hbx0 i | simp [go_sem])); have HB : Below w.heap.size w w1 := below_then (by repeat (first | exact Below.refl _ _ | assumption | apply below_more)) hb1; clear hb1))
  go_ret
  exact ⟨rfl, HB⟩

set_option maxRecDepth 100000 in
set_option maxHeartbeats 1600000 in
theorem rsho_1t (n : Int) (s : ByteArray) (A : Option Addr) (p : List Int) (c : Nat) (w : World) (hR : ∀ W, Below w.heap.size w W → Calls Tryd.prog 64 #[.agg #[.int .i64 1, .bool true, .int .i64 n, .string s, .slice A p.length c]] W fun e w' => e = .returned (.bool true) ∧ Below W.heap.size W w') :
    Calls Tryd.prog 65 #[.agg #[.int .i64 1, .bool true, .int .i64 n, .string s, .slice A p.length c]] w fun e w' => e = .returned (.string ⟨([116, 114, 117, 101]).toArray⟩) ∧ Below w.heap.size w w' := by
  go_enter Tryd.func65, Tryd.ntmps65
  go_wp2_with (first | (go_at_call 64; refine (hR _ (by repeat (first | exact Below.refl _ _ | assumption | apply below_more))).mono ?_; rintro e w1 ⟨rfl, hb1⟩; have hz : w.heap.size < w1.heap.size := (by have := hb1.size; (try simp at this); omega); have hbx0 : ∀ i, w1.cell? ⟨w.heap.size, i, none⟩ = (#[.int .i64 1, .bool true, .int .i64 n, .string s, .slice A p.length c] : Array Value)[i]? := (fun i => (hb1.cell (p := ⟨w.heap.size, i, none⟩) (by first | omega | (simp; done) | (simp; omega))).trans (by first | exact hbx0 i | simp [go_sem])); have HB : Below w.heap.size w w1 := below_then (by repeat (first | exact Below.refl _ _ | assumption | apply below_more)) hb1; clear hb1))
  go_ret
  exact ⟨rfl, HB⟩

set_option maxRecDepth 100000 in
set_option maxHeartbeats 1600000 in
theorem rsho_1f (n : Int) (s : ByteArray) (A : Option Addr) (p : List Int) (c : Nat) (w : World) (hR : ∀ W, Below w.heap.size w W → Calls Tryd.prog 64 #[.agg #[.int .i64 1, .bool false, .int .i64 n, .string s, .slice A p.length c]] W fun e w' => e = .returned (.bool true) ∧ Below W.heap.size W w') :
    Calls Tryd.prog 65 #[.agg #[.int .i64 1, .bool false, .int .i64 n, .string s, .slice A p.length c]] w fun e w' => e = .returned (.string ⟨([102, 97, 108, 115, 101]).toArray⟩) ∧ Below w.heap.size w w' := by
  go_enter Tryd.func65, Tryd.ntmps65
  go_wp2_with (first | (go_at_call 64; refine (hR _ (by repeat (first | exact Below.refl _ _ | assumption | apply below_more))).mono ?_; rintro e w1 ⟨rfl, hb1⟩; have hz : w.heap.size < w1.heap.size := (by have := hb1.size; (try simp at this); omega); have hbx0 : ∀ i, w1.cell? ⟨w.heap.size, i, none⟩ = (#[.int .i64 1, .bool false, .int .i64 n, .string s, .slice A p.length c] : Array Value)[i]? := (fun i => (hb1.cell (p := ⟨w.heap.size, i, none⟩) (by first | omega | (simp; done) | (simp; omega))).trans (by first | exact hbx0 i | simp [go_sem])); have HB : Below w.heap.size w w1 := below_then (by repeat (first | exact Below.refl _ _ | assumption | apply below_more)) hb1; clear hb1))
  go_ret
  exact ⟨rfl, HB⟩

set_option maxRecDepth 100000 in
set_option maxHeartbeats 1600000 in
theorem rsho_2 (n : Int) (b : Bool) (s : ByteArray) (A : Option Addr) (p : List Int) (c : Nat) (w : World) (hR : ∀ W, Below w.heap.size w W → Calls Tryd.prog 64 #[.agg #[.int .i64 2, .bool b, .int .i64 n, .string s, .slice A p.length c]] W fun e w' => e = .returned (.bool true) ∧ Below W.heap.size W w') (l : List UInt8) (hF : ∀ W, Below w.heap.size w W → Calls Tryd.prog 93 #[.int .i64 n, .int .i64 10] W fun e w' => e = .returned (.string ⟨l.toArray⟩) ∧ Below W.heap.size W w'):
    Calls Tryd.prog 65 #[.agg #[.int .i64 2, .bool b, .int .i64 n, .string s, .slice A p.length c]] w fun e w' => e = .returned (.string ⟨(l).toArray⟩) ∧ Below w.heap.size w w' := by
  go_enter Tryd.func65, Tryd.ntmps65
  go_wp2_with (first | (go_at_call 64; refine (hR _ (by repeat (first | exact Below.refl _ _ | assumption | apply below_more))).mono ?_; rintro e w1 ⟨rfl, hb1⟩; have hz : w.heap.size < w1.heap.size := (by have := hb1.size; (try simp at this); omega); have hbx0 : ∀ i, w1.cell? ⟨w.heap.size, i, none⟩ = (#[.int .i64 2, .bool b, .int .i64 n, .string s, .slice A p.length c] : Array Value)[i]? := (fun i => (hb1.cell (p := ⟨w.heap.size, i, none⟩) (by first | omega | (simp; done) | (simp; omega))).trans (by first | exact hbx0 i | simp [go_sem])); have HB : Below w.heap.size w w1 := below_then (by repeat (first | exact Below.refl _ _ | assumption | apply below_more)) hb1; clear hb1) | (go_at_call 93; refine (hF _ (by repeat (first | exact Below.refl _ _ | assumption | apply below_more))).mono ?_; rintro e w1 ⟨rfl, hb1⟩; have hz : w.heap.size < w1.heap.size := (by have := hb1.size; (try simp at this); omega); have hbx0 : ∀ i, w1.cell? ⟨w.heap.size, i, none⟩ = (#[.int .i64 2, .bool b, .int .i64 n, .string s, .slice A p.length c] : Array Value)[i]? := (fun i => (hb1.cell (p := ⟨w.heap.size, i, none⟩) (by first | omega | (simp; done) | (simp; omega))).trans (by first | exact hbx0 i | simp [go_sem])); have HB : Below w.heap.size w w1 := below_then (by repeat (first | exact Below.refl _ _ | assumption | apply below_more)) hb1; clear hb1))
  go_ret
  exact ⟨rfl, HB⟩

set_option maxRecDepth 100000 in
set_option maxHeartbeats 1600000 in
theorem rsho_3 (n : Int) (b : Bool) (s : ByteArray) (A : Option Addr) (p : List Int) (c : Nat) (w : World) (hR : ∀ W, Below w.heap.size w W → Calls Tryd.prog 64 #[.agg #[.int .i64 3, .bool b, .int .i64 n, .string s, .slice A p.length c]] W fun e w' => e = .returned (.bool true) ∧ Below W.heap.size W w') (q : List UInt8) (hQ : ∀ W, Calls Tryd.prog 97 #[.string s] W fun e w' => e = .returned (.string ⟨q.toArray⟩) ∧ Below W.heap.size W w'):
    Calls Tryd.prog 65 #[.agg #[.int .i64 3, .bool b, .int .i64 n, .string s, .slice A p.length c]] w fun e w' => e = .returned (.string ⟨(q).toArray⟩) ∧ Below w.heap.size w w' := by
  go_enter Tryd.func65, Tryd.ntmps65
  go_wp2_with (first | (go_at_call 64; refine (hR _ (by repeat (first | exact Below.refl _ _ | assumption | apply below_more))).mono ?_; rintro e w1 ⟨rfl, hb1⟩; have hz : w.heap.size < w1.heap.size := (by have := hb1.size; (try simp at this); omega); have hbx0 : ∀ i, w1.cell? ⟨w.heap.size, i, none⟩ = (#[.int .i64 3, .bool b, .int .i64 n, .string s, .slice A p.length c] : Array Value)[i]? := (fun i => (hb1.cell (p := ⟨w.heap.size, i, none⟩) (by first | omega | (simp; done) | (simp; omega))).trans (by first | exact hbx0 i | simp [go_sem])); have HB : Below w.heap.size w w1 := below_then (by repeat (first | exact Below.refl _ _ | assumption | apply below_more)) hb1; clear hb1) | (go_at_call 97; refine (hQ _).mono ?_; rintro e w1 ⟨rfl, hb1⟩; have hz : w.heap.size < w1.heap.size := (by have := hb1.size; (try simp at this); omega); have hbx0 : ∀ i, w1.cell? ⟨w.heap.size, i, none⟩ = (#[.int .i64 3, .bool b, .int .i64 n, .string s, .slice A p.length c] : Array Value)[i]? := (fun i => (hb1.cell (p := ⟨w.heap.size, i, none⟩) (by first | omega | (simp; done) | (simp; omega))).trans (by first | exact hbx0 i | simp [go_sem])); have HB : Below w.heap.size w w1 := below_then (by repeat (first | exact Below.refl _ _ | assumption | apply below_more)) hb1; clear hb1))
  go_ret
  exact ⟨rfl, HB⟩

set_option maxRecDepth 100000 in
set_option maxHeartbeats 1600000 in
theorem rsho_4 (n : Int) (b : Bool) (s : ByteArray) (A : Option Addr) (p : List Int) (c : Nat) (w : World) (hR : ∀ W, Below w.heap.size w W → Calls Tryd.prog 64 #[.agg #[.int .i64 4, .bool b, .int .i64 n, .string s, .slice A p.length c]] W fun e w' => e = .returned (.bool true) ∧ Below W.heap.size W w') (l : List UInt8) (hF : ∀ W, Below w.heap.size w W → Calls Tryd.prog 93 #[.int .i64 n, .int .i64 10] W fun e w' => e = .returned (.string ⟨l.toArray⟩) ∧ Below W.heap.size W w') (hl : l.length ≤ 1000):
    Calls Tryd.prog 65 #[.agg #[.int .i64 4, .bool b, .int .i64 n, .string s, .slice A p.length c]] w fun e w' => e = .returned (.string ⟨(35 :: l).toArray⟩) ∧ Below w.heap.size w w' := by
  have hlim : ¬ 9223372036854775807 < 1 + l.length := by omega
  clear hl
  go_enter Tryd.func65, Tryd.ntmps65
  go_wp2_with (first | (go_at_call 64; refine (hR _ (by repeat (first | exact Below.refl _ _ | assumption | apply below_more))).mono ?_; rintro e w1 ⟨rfl, hb1⟩; have hz : w.heap.size < w1.heap.size := (by have := hb1.size; (try simp at this); omega); have hbx0 : ∀ i, w1.cell? ⟨w.heap.size, i, none⟩ = (#[.int .i64 4, .bool b, .int .i64 n, .string s, .slice A p.length c] : Array Value)[i]? := (fun i => (hb1.cell (p := ⟨w.heap.size, i, none⟩) (by first | omega | (simp; done) | (simp; omega))).trans (by first | exact hbx0 i | simp [go_sem])); have HB : Below w.heap.size w w1 := below_then (by repeat (first | exact Below.refl _ _ | assumption | apply below_more)) hb1; clear hb1) | (go_at_call 93; refine (hF _ (by repeat (first | exact Below.refl _ _ | assumption | apply below_more))).mono ?_; rintro e w1 ⟨rfl, hb1⟩; have hz : w.heap.size < w1.heap.size := (by have := hb1.size; (try simp at this); omega); have hbx0 : ∀ i, w1.cell? ⟨w.heap.size, i, none⟩ = (#[.int .i64 4, .bool b, .int .i64 n, .string s, .slice A p.length c] : Array Value)[i]? := (fun i => (hb1.cell (p := ⟨w.heap.size, i, none⟩) (by first | omega | (simp; done) | (simp; omega))).trans (by first | exact hbx0 i | simp [go_sem])); have HB : Below w.heap.size w w1 := below_then (by repeat (first | exact Below.refl _ _ | assumption | apply below_more)) hb1; clear hb1))
  go_ret
  exact ⟨congrArg (fun x => Ending.returned (Value.string x)) (cat1 _ l), HB⟩

set_option maxRecDepth 100000 in
set_option maxHeartbeats 1600000 in
theorem rsho_5 (n : Int) (b : Bool) (s : ByteArray) (A : Option Addr) (p : List Int) (c : Nat) (w : World) (hR : ∀ W, Below w.heap.size w W → Calls Tryd.prog 64 #[.agg #[.int .i64 5, .bool b, .int .i64 n, .string s, .slice A p.length c]] W fun e w' => e = .returned (.bool true) ∧ Below W.heap.size W w') (l : List UInt8) (hF : ∀ W, Below w.heap.size w W → Calls Tryd.prog 93 #[.int .i64 n, .int .i64 10] W fun e w' => e = .returned (.string ⟨l.toArray⟩) ∧ Below W.heap.size W w') (hl : l.length ≤ 1000):
    Calls Tryd.prog 65 #[.agg #[.int .i64 5, .bool b, .int .i64 n, .string s, .slice A p.length c]] w fun e w' => e = .returned (.string ⟨(64 :: l).toArray⟩) ∧ Below w.heap.size w w' := by
  have hlim : ¬ 9223372036854775807 < 1 + l.length := by omega
  clear hl
  go_enter Tryd.func65, Tryd.ntmps65
  go_wp2_with (first | (go_at_call 64; refine (hR _ (by repeat (first | exact Below.refl _ _ | assumption | apply below_more))).mono ?_; rintro e w1 ⟨rfl, hb1⟩; have hz : w.heap.size < w1.heap.size := (by have := hb1.size; (try simp at this); omega); have hbx0 : ∀ i, w1.cell? ⟨w.heap.size, i, none⟩ = (#[.int .i64 5, .bool b, .int .i64 n, .string s, .slice A p.length c] : Array Value)[i]? := (fun i => (hb1.cell (p := ⟨w.heap.size, i, none⟩) (by first | omega | (simp; done) | (simp; omega))).trans (by first | exact hbx0 i | simp [go_sem])); have HB : Below w.heap.size w w1 := below_then (by repeat (first | exact Below.refl _ _ | assumption | apply below_more)) hb1; clear hb1) | (go_at_call 93; refine (hF _ (by repeat (first | exact Below.refl _ _ | assumption | apply below_more))).mono ?_; rintro e w1 ⟨rfl, hb1⟩; have hz : w.heap.size < w1.heap.size := (by have := hb1.size; (try simp at this); omega); have hbx0 : ∀ i, w1.cell? ⟨w.heap.size, i, none⟩ = (#[.int .i64 5, .bool b, .int .i64 n, .string s, .slice A p.length c] : Array Value)[i]? := (fun i => (hb1.cell (p := ⟨w.heap.size, i, none⟩) (by first | omega | (simp; done) | (simp; omega))).trans (by first | exact hbx0 i | simp [go_sem])); have HB : Below w.heap.size w w1 := below_then (by repeat (first | exact Below.refl _ _ | assumption | apply below_more)) hb1; clear hb1))
  go_ret
  exact ⟨congrArg (fun x => Ending.returned (Value.string x)) (cat1 _ l), HB⟩
end Go.Proofs.YtkchpgjjkckfbaaDoor
