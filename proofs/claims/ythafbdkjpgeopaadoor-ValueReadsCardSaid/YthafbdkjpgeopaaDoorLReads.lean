/- The walk of the law ValueReads. -/
import Derived.Test.YthafbdkjpgeopaaDoorDecM
import Derived.Test.YthafbdkjpgeopaaDoorLawW
set_option linter.unusedVariables false
set_option linter.unusedSimpArgs false
namespace Go.Proofs.YthafbdkjpgeopaaDoor
open Go.RowKit

set_option maxRecDepth 100000 in
set_option maxHeartbeats 3200000 in
theorem reads_walk (A : Option Addr) (bs : List Int) (c : Nat) (z : Int) (w : World) (hr : ReadsB w A bs) (hbt : ∀ x ∈ bs, 0 ≤ x ∧ x < 256) (hc : bs.length ≤ c) (hbl : bs.length ≤ 140737488351232) (ht : Tabs w) (hT : Lib.Utf8Tabs 0 1 w) :
    Calls Tryd.prog 18 #[.slice A bs.length c, .int .i64 z] w fun e w' => e = .returned (.bool true) ∧ Below w.heap.size w w' := by
  have hH := fun W (h : Below w.heap.size w W) => head_any W (ht.below h)
  have hD1 : ∀ W A2 c2, ReadsB W A2 bs → bs.length ≤ c2 → Calls Tryd.prog 36 #[.slice A2 bs.length c2, .int .i64 z] W (AnsD (decZ bs z) W) := fun W A2 c2 h1 h2 => dec_any A2 bs c2 z W h1 hbt h2
  have hD2 : ∀ W, Below w.heap.size w W → Calls Tryd.prog 44 #[.slice A bs.length c, .int .i64 z] W (AnsD (decZ bs z) W) := fun W h => rdec_any A bs c z W (hr.below h) hbt hc (by omega) (Utf8Tabs_below hT h)
  generalize decZ bs z = d at hD1 hD2
  obtain ⟨dk, dn, db, ds, dp, dx, de⟩ := d
  have hsm : sameB dk db dn ds dp dk db dn ds dp = true := by simp [sameB]
  have HR := Aside0.mk hr
  have HD1 := Aside0.mk hD1
  have HD2 := Aside0.mk hD2
  have HSM := Aside0.mk hsm
  clear hr ht hT hbt hD1 hD2 hsm
  go_enter Tryd.func18, Tryd.ntmps18
  go_wp2_with (go_at_call 19; go_loud (refine (hH _ (Below.refl _ _)).mono ?_))
  first
    | (intro e W1 he hb1; subst he)
    | rintro e W1 ⟨rfl, hb1⟩
  clear hH
  go_wp2_with (at_builtin; go_loud (refine append_reads rfl (.tmp 15) (.tmp 16) rfl W1.heap.size _ 0 [] rfl (World.ownsRow_made W1 #[] 0 (Nat.le_refl _) (by decide) (by simp)) A bs c rfl (HR.out.below (below_more hb1 _)) (by omega) (by simp) ?_))
  intro v' W2 ho2 hb2
  have HB2 : Below w.heap.size w W2 := (below_more hb1 _).trans (hb2.mono hb1.size)
  have ho2' : W2.ownsRow W1.heap.size 5 1 v' bs.length (byteVals bs) := by simpa using ho2
  obtain ⟨A2, c2, rfl, hr2, hc2⟩ := own_bytes ho2'
  have HR2 := Aside0.mk hr2
  have hd1 := HD1.out W2 A2 c2 hr2 hc2
  clear ho2 ho2' hb2 hb1 hr2
  go_wp2_with (go_at_call 36; go_loud (refine hd1.mono ?_))
  rintro e W3 ⟨A3, c3, rfl, hrA3, hb3⟩
  clear hd1
  go_upto_region 4 with (fail)
  obtain ⟨W4, hW4⟩ : ∃ W4, W4 = W3.alloc (.cells #[.int .i64 dk, .bool db, .int .i64 dn, .string ds, .slice A3 dp.length c3] 25) := ⟨_, rfl⟩
  obtain ⟨b4, hb4⟩ : ∃ b, b = W3.heap.size := ⟨_, rfl⟩
  rw [← hW4, ← hb4]
  have HB4 : Below w.heap.size w W4 := by rw [hW4]; exact below_more (below_then HB2 hb3) _
  have x4 : Box W4 b4 #[.int .i64 dk, .bool db, .int .i64 dn, .string ds, .slice A3 dp.length c3] := by rw [hW4, hb4]; exact Box.new W3 _
  have hr4 : ReadsI W4 A3 dp := by rw [hW4]; exact hrA3.below (below_more (Below.refl _ _) _)
  have HK : Aside0 (ReadsB W4 A2 bs) := ⟨by rw [hW4]; exact HR2.out.below (below_more hb3 _)⟩
  have hd2 := HD2.out W4 HB4
  clear hW4 hb4 hrA3 hb3 HB2 HR2 HD1 HD2
  go_wp2_with (go_at_call 44; go_loud (refine hd2.mono ?_))
  rintro e W5 ⟨A5, c5, rfl, hrA5, hb5⟩
  clear hd2
  go_upto_region 5 with (fail)
  obtain ⟨W6, hW6⟩ : ∃ W6, W6 = W5.alloc (.cells #[.int .i64 dk, .bool db, .int .i64 dn, .string ds, .slice A5 dp.length c5] 25) := ⟨_, rfl⟩
  obtain ⟨b6, hb6⟩ : ∃ b, b = W5.heap.size := ⟨_, rfl⟩
  rw [← hW6, ← hb6]
  have hk6 : Below W4.heap.size W4 W6 := by rw [hW6]; exact below_more hb5 _
  have HB6 : Below w.heap.size w W6 := below_then HB4 hk6
  have x46 := x4.kept hk6
  have x6 : Box W6 b6 #[.int .i64 dk, .bool db, .int .i64 dn, .string ds, .slice A5 dp.length c5] := by rw [hW6, hb6]; exact Box.new W5 _
  have hr46 := hr4.below hk6
  have hr6 : ReadsI W6 A5 dp := by rw [hW6]; exact hrA5.below (below_more (Below.refl _ _) _)
  have HK6 : Aside0 (ReadsB W6 A2 bs) := ⟨HK.out.below hk6⟩
  have hx46 := x46.cells
  have hx6 := x6.cells
  have hsame := same_any dk dn db ds A3 dp c3 dk dn db ds A5 dp c5 W6 hr46 hr6
  rw [HSM.out] at hsame
  clear hW6 hb6 hrA5 hb5 HK hk6 hr4 x4 hr46 hr6
  go_wp2_with (go_at_call 24; go_loud (refine hsame.mono ?_))
  first
    | (intro e W7 he hb7; subst he)
    | rintro e W7 ⟨rfl, hb7⟩
  have HB7 := below_then HB6 hb7
  obtain ⟨S1, hcv1, hS1⟩ := conv_reads (c := c2) (HK6.out.below hb7)
  obtain ⟨S2, hcv2, hS2⟩ := conv_reads (c := c) (HR.out.below HB7)
  obtain rfl : S1 = S2 := hS1.trans hS2.symm
  have hee : (S1.toList == S1.toList) = true := by simp
  have hxx : (dx == dx) = true := by simp
  have hde : (de == de) = true := by simp
  clear hsame hS1 hS2 hx46 hx6 x46 x6 hb7 HB6
  go_wp2
  go_ret
  exact ⟨rfl, HB7⟩
end Go.Proofs.YthafbdkjpgeopaaDoor
