/- The walk of the law ValueBack. -/
import Derived.Test.YthafbdkjpgeopaaDoorDecM
import Derived.Test.YthafbdkjpgeopaaDoorDecBk
import Derived.Test.YthafbdkjpgeopaaDoorLawW
set_option linter.unusedVariables false
set_option linter.unusedSimpArgs false
namespace Go.Proofs.YthafbdkjpgeopaaDoor
open Go.RowKit

theorem enc_small (k : Int) (b : Bool) (n : Int) (s : ByteArray) (p : List Int) (h : rightB k b n s p = true) : 0 < (encN k b n s p).length ∧ (encN k b n s p).length ≤ 5000 := by
  have hN : (encN k b n s p).length = (encB k b n s p).length := by rw [encN, encL, if_pos h, List.length_map]
  rw [hN]
  rcases right_k h with rfl | rfl | rfl | ⟨rfl, h3⟩ | rfl | rfl | ⟨rfl, h6, h7⟩
  · simp [encB]
  · simp [encB]
  · simp [encB, octs_length]
  · have h9 : (Lib.strCells s).length = s.size := by have := strCells_len s; rwa [List.length_map] at this
    have e : encB 3 b n s p = [.int .u8 3] ++ octs s.size 4 4 ++ Lib.strCells s := rfl
    rw [e, List.length_append, List.length_append, octs_length, h9]
    simp
    omega
  · simp [encB, octs_length]
  · simp [encB, octs_length]
  · have e : encB 6 b n s p = [.int .u8 6] ++ [.int .u8 (p.length : Int)] ++ octL p := rfl
    rw [e, List.length_append, octL_length]
    simp
    omega
theorem enc_none (k : Int) (b : Bool) (n : Int) (s : ByteArray) (p : List Int) (h : rightB k b n s p = false) : encN k b n s p = [] := by
  rw [encN, encL, if_neg (by rw [h]; simp)]
  rfl
theorem enc_bytes (k : Int) (b : Bool) (n : Int) (s : ByteArray) (p : List Int) : ∀ x ∈ encN k b n s p, 0 ≤ x ∧ x < 256 := by
  have ho : ∀ (y : Int) (m k : Nat), ∀ x ∈ (octs y m k).map intOf, 0 ≤ x ∧ x < 256 := by
    intro y m k x hx
    simp only [octs, List.map_map, List.mem_map, List.mem_range] at hx
    obtain ⟨j, _, rfl⟩ := hx
    show 0 ≤ byteAt y _ ∧ byteAt y _ < 256
    unfold byteAt
    omega
  have hl : ∀ (q : List Int), ∀ x ∈ (octL q).map intOf, 0 ≤ x ∧ x < 256 := by
    intro q
    induction q with
    | nil => intro x hx; simp [octL] at hx
    | cons y r ih =>
      intro x hx
      rw [octL, List.map_append, List.mem_append] at hx
      rcases hx with hx | hx
      · exact ho y 8 8 x hx
      · exact ih x hx
  cases h : rightB k b n s p
  · rw [enc_none k b n s p h]
    intro x hx
    cases hx
  · have hN : encN k b n s p = (encB k b n s p).map intOf := by rw [encN, encL, if_pos h]
    rw [hN]
    rcases right_k h with rfl | rfl | rfl | ⟨rfl, h3⟩ | rfl | rfl | ⟨rfl, h6, h7⟩
    · intro x hx; simp [encB, intOf] at hx; omega
    · intro x hx
      have e : (encB 1 b n s p).map intOf = [1, if b then 1 else 0] := by cases b <;> rfl
      rw [e] at hx
      simp at hx
      rcases hx with rfl | rfl
      · omega
      · cases b <;> simp
    · intro x hx
      rw [show (encB 2 b n s p).map intOf = 2 :: (octs n 8 8).map intOf from rfl, List.mem_cons] at hx
      rcases hx with rfl | hx
      · omega
      · exact ho _ _ _ x hx
    · intro x hx
      have e : (encB 3 b n s p).map intOf = 3 :: ((octs s.size 4 4).map intOf ++ (Lib.strCells s).map intOf) := by simp [encB, intOf]
      rw [e, List.mem_cons, List.mem_append] at hx
      rcases hx with rfl | hx | hx
      · omega
      · exact ho _ _ _ x hx
      · simp only [Lib.strCells, List.map_map, List.mem_map] at hx
        obtain ⟨y, _, rfl⟩ := hx
        show 0 ≤ (y.toNat : Int) ∧ (y.toNat : Int) < 256
        have := y.toNat_lt
        omega
    · intro x hx
      rw [show (encB 4 b n s p).map intOf = 4 :: (octs n 8 8).map intOf from rfl, List.mem_cons] at hx
      rcases hx with rfl | hx
      · omega
      · exact ho _ _ _ x hx
    · intro x hx
      rw [show (encB 5 b n s p).map intOf = 5 :: (octs n 8 8).map intOf from rfl, List.mem_cons] at hx
      rcases hx with rfl | hx
      · omega
      · exact ho _ _ _ x hx
    · intro x hx
      have e : (encB 6 b n s p).map intOf = 6 :: (p.length : Int) :: (octL p).map intOf := by simp [encB, intOf]
      rw [e, List.mem_cons, List.mem_cons] at hx
      rcases hx with rfl | rfl | hx
      · omega
      · omega
      · exact hl p x hx
theorem encL_vals (k : Int) (b : Bool) (n : Int) (s : ByteArray) (p : List Int) : encL k b n s p = byteVals (encN k b n s p) := (byteVals_int (allU8_enc k b n s p)).symm
set_option maxRecDepth 100000 in
set_option maxHeartbeats 3200000 in
theorem back_walk (k n : Int) (b : Bool) (s : ByteArray) (A : Option Addr) (p : List Int) (c : Nat) (Aa : Option Addr) (av : List Int) (ca : Nat) (Ab : Option Addr) (bs : List Int) (cb : Nat) (y : Nat) (w : World) (hr : ReadsI w A p) (hn : -9223372036854775808 ≤ n ∧ n ≤ 9223372036854775807)
    (hra : ReadsB w Aa av) (hbta : ∀ x ∈ av, 0 ≤ x ∧ x < 256) (hla : av.length ≤ 1048576) (hrb : ReadsB w Ab bs) (hbtb : ∀ x ∈ bs, 0 ≤ x ∧ x < 256) (hlb : bs.length ≤ 1048576) (hy : y < 65536) (ht : Tabs w) :
    Calls Tryd.prog 12 #[.agg #[.int .i64 k, .bool b, .int .i64 n, .string s, .slice A p.length c], .slice Aa av.length ca, .slice Ab bs.length cb, .int .u16 (y : Int)] w fun e w' => e = .returned (.bool true) ∧ Below w.heap.size w w' := by
  have hH := fun W (h : Below w.heap.size w W) => head_any W (ht.below h)
  have hE : ∀ W, Below w.heap.size w W → Calls Tryd.prog 23 #[.agg #[.int .i64 k, .bool b, .int .i64 n, .string s, .slice A p.length c]] W fun e w' => ∃ v', e = .returned v' ∧ w'.ownsRow W.heap.size 5 1 v' (encN k b n s p).length (byteVals (encN k b n s p)) ∧ Below W.heap.size W w' := fun W hW => by
    have h := enc_any k n b s A p c W (hr.below hW) hn
    rw [encL_vals, byteVals_len] at h
    exact h
  have hR : ∀ W, Below w.heap.size w W → Calls Tryd.prog 22 #[.agg #[.int .i64 k, .bool b, .int .i64 n, .string s, .slice A p.length c]] W fun e w' => e = .returned (.bool (rightB k b n s p)) ∧ Below W.heap.size W w' := fun W hW => right_any k n b s A p c W (hr.below hW)
  have hbte := enc_bytes k b n s p
  have HR := Aside0.mk hr
  have HRA := Aside0.mk hra
  have HRB := Aside0.mk hrb
  obtain ⟨en, hen⟩ : ∃ en, en = encN k b n s p := ⟨_, rfl⟩
  rw [← hen] at hE hbte
  have HEN := Aside0.mk hen
  obtain ⟨R, hRR⟩ : ∃ R, rightB k b n s p = R := ⟨_, rfl⟩
  rw [hRR] at hR
  have HRR := Aside0.mk hRR
  have HBT := Aside0.mk (And.intro hbta (And.intro hbte hbtb))
  have HHH := Aside0.mk hR
  have hsm : sameB k b n s p k b n s p = true := by simp [sameB]
  have HSM := Aside0.mk hsm
  have HN := Aside0.mk hn
  clear hr ht hra hrb hen hRR hbta hbtb hbte hR hsm hn
  go_enter Tryd.func12, Tryd.ntmps12
  go_wp2_with (go_at_call 19; go_loud (refine (hH _ (below_more (Below.refl _ _) _)).mono ?_))
  first
    | (intro e W1 he hb1; subst he)
    | rintro e W1 ⟨rfl, hb1⟩
  have HB1 : Below w.heap.size w W1 := by first | exact below_box hb1 | exact (below_more (Below.refl _ _) _).trans (hb1.mono (Nat.le_succ _))
  have x1 : Box W1 w.heap.size #[.int .i64 k, .bool b, .int .i64 n, .string s, .slice A p.length c] := by
    first
      | exact (hb1.block w.heap.size (by simp)).trans (heap_alloc_new w _)
      | exact (hb1.block w.heap.size (Nat.lt_succ_self _)).trans (heap_alloc_new w _)
  have hx1 := x1.cells
  have he1 := hE W1 HB1
  clear hb1 hH hE
  go_wp2_with (go_at_call 23; go_loud (refine he1.mono ?_))
  rintro e W2 ⟨v2, rfl, ho2, hb2⟩
  have HB2 := below_then HB1 hb2
  have x2 := x1.kept hb2
  have hx2 := x2.cells
  obtain ⟨Ae, ce, rfl, hre, hce⟩ := own_bytes ho2
  have HRE := Aside0.mk hre
  have hr2 := HHH.out W2 HB2
  clear hb2 x1 hx1 HB1 he1 ho2 hre HHH
  go_wp2_with (go_at_call 22; go_loud (refine hr2.mono ?_))
  first
    | (intro e W3 he hb3; subst he)
    | rintro e W3 ⟨rfl, hb3⟩
  have HB3 := below_then HB2 hb3
  have x3 := x2.kept hb3
  have hx3 := x3.cells
  have HRE3 : Aside0 (ReadsB W3 Ae en) := ⟨HRE.out.below hb3⟩
  clear hb3 x2 hx2 HB2 hr2 HRE
  cases R with
  | false =>
    obtain rfl : en = [] := by rw [HEN.out]; exact enc_none k b n s p HRR.out
    go_wp2
    go_ret
    exact ⟨rfl, HB3⟩
  | true =>
    have hsz := enc_small k b n s p HRR.out
    rw [← HEN.out] at hsz
    obtain ⟨hs0, hs9⟩ := hsz
    go_wp2_with (at_builtin; go_loud (refine append_reads rfl (.tmp 30) (.tmp 31) rfl W3.heap.size _ 0 [] rfl (World.ownsRow_made W3 #[] 0 (Nat.le_refl _) (by decide) (by simp)) Aa av ca rfl (HRA.out.below (below_more HB3 _)) (by omega) (by simp) ?_))
    intro v4 W4 ho4 hb4
    have HB4 : Below w.heap.size w W4 := (below_more HB3 _).trans (hb4.mono HB3.size)
    have hb34 : Below W3.heap.size W3 W4 := (below_more (Below.refl _ _) _).trans hb4
    have hs4 : W3.heap.size ≤ W4.heap.size := hb34.size
    go_wp2_with (at_builtin; go_loud (refine append_reads rfl (.tmp 32) (.tmp 33) rfl W3.heap.size v4 _ _ rfl ho4 Ae en ce rfl (HRE3.out.below hb34) (by omega) hs4 ?_))
    intro v5 W5 ho5 hb5
    have hb35 : Below W3.heap.size W3 W5 := hb34.trans hb5
    have HB5 : Below w.heap.size w W5 := HB3.trans (hb35.mono HB3.size)
    have hs5 : W3.heap.size ≤ W5.heap.size := hb35.size
    go_wp2_with (at_builtin; go_loud (refine append_reads rfl (.tmp 34) (.tmp 35) rfl W3.heap.size v5 _ _ rfl ho5 Ab bs cb rfl (HRB.out.below HB5) (by omega) hs5 ?_))
    intro v6 W6 ho6 hb6
    have hb36 : Below W3.heap.size W3 W6 := hb35.trans hb6
    have HB6 : Below w.heap.size w W6 := HB3.trans (hb36.mono HB3.size)
    obtain ⟨all, hall⟩ : ∃ all, all = av ++ en ++ bs := ⟨_, rfl⟩
    have ho6' : W6.ownsRow W3.heap.size 5 1 v6 all.length (byteVals all) := by
      rw [hall]
      simpa [byteVals, Nat.add_assoc, List.append_assoc] using ho6
    obtain ⟨A6, c6, rfl, hr6, hc6⟩ := own_bytes ho6'
    have hd6 := dec_any A6 all c6 (av.length : Int) W6 hr6 (fun x hx => by
      rw [hall, List.mem_append, List.mem_append] at hx
      rcases hx with (hx | hx) | hx
      · exact HBT.out.1 x hx
      · exact HBT.out.2.1 x hx
      · exact HBT.out.2.2 x hx) hc6
    have hdz : decZ all (av.length : Int) = ⟨k, n, b, s, p, (av.length : Int) + (en.length : Int), 0⟩ := by
      rw [hall, HEN.out]
      exact dec_back k b n s p av bs HN.out HRR.out
    rw [hdz] at hd6
    have hb26 : Below W3.heap.size W3 W6 := hb36
    have x6 := x3.kept hb26
    have HRE6 : Aside0 (ReadsB W6 Ae en) := ⟨HRE3.out.below hb26⟩
    clear ho4 hb4 hb34 hs4 ho5 hb5 hb35 hs5 HB4 HB5 ho6 hb6 hb36 hall ho6' hdz hb26 HRE3 x3 hx3 HB3 hr6 hc6
    go_wp2_with (go_at_call 36; go_loud (refine hd6.mono ?_))
    rintro e W7 ⟨A7, c7, rfl, hrA7, hb7⟩
    clear hd6
    go_upto_region 7 with (fail)
    obtain ⟨W8, hW8⟩ : ∃ W8, W8 = W7.alloc (.cells #[.int .i64 k, .bool b, .int .i64 n, .string s, .slice A7 p.length c7] 25) := ⟨_, rfl⟩
    obtain ⟨b8, hb8⟩ : ∃ b, b = W7.heap.size := ⟨_, rfl⟩
    rw [← hW8, ← hb8]
    have hk8 : Below W6.heap.size W6 W8 := by rw [hW8]; exact below_more hb7 _
    have HB8 : Below w.heap.size w W8 := below_then HB6 hk8
    have x8 := x6.kept hk8
    have x8n : Box W8 b8 #[.int .i64 k, .bool b, .int .i64 n, .string s, .slice A7 p.length c7] := by rw [hW8, hb8]; exact Box.new W7 _
    have hrA8 : ReadsI W8 A7 p := by rw [hW8]; exact hrA7.below (below_more (Below.refl _ _) _)
    obtain ⟨q, hq⟩ : ∃ q, q = y % en.length := ⟨_, rfl⟩
    have hqe : q < en.length := by rw [hq]; exact Nat.mod_lt _ hs0
    have hrem : (y : Int).tmod (en.length : Int) = (q : Int) := by
      rw [Int.tmod_eq_emod_of_nonneg (by omega), hq]
      exact (Int.natCast_emod y en.length).symm
    have hen0 : ¬ (en.length : Int) = 0 := by omega
    have heni : (0 : Int) < (en.length : Int) := by omega
    have hsl8 : ∀ W, (Instr.slice 30 (.slice Ae en.length ce) none (some (.int .i64 (q : Int))) none).run Tryd.prog W = .ok (.slice Ae q ce) W := fun W => slice_to W Ae en.length ce q (by omega) hce
    have hd8 : Calls Tryd.prog 36 #[.slice Ae q ce, .int .i64 0] W8 (AnsD D7.bad W8) := by
      have hl : (en.take q).length = q := by rw [List.length_take]; omega
      have h := dec_any Ae (en.take q) ce 0 W8 ((HRE6.out.below hk8).take q) (fun x hx => HBT.out.2.1 x (List.mem_of_mem_take hx)) (by omega)
      rw [hl, HEN.out, dec_cut k b n s p q HRR.out (by rw [← HEN.out]; exact hqe)] at h
      exact h
    clear hW8 hb8 hk8 HB6 x6 hrA7 HRE6 hq hb7
    go_wp2_with (go_at_call 36; go_loud (refine hd8.mono ?_))
    rintro e W9 ⟨A9, c9, rfl, hrA9, hb9⟩
    clear hd8
    go_upto_region 8 with (fail)
    obtain ⟨W10, hW10⟩ : ∃ W10, W10 = W9.alloc (.cells #[.int .i64 D7.bad.k, .bool D7.bad.b, .int .i64 D7.bad.n, .string D7.bad.s, .slice A9 D7.bad.p.length c9] 25) := ⟨_, rfl⟩
    rw [← hW10]
    have hk10 : Below W8.heap.size W8 W10 := by rw [hW10]; exact below_more hb9 _
    have HB10 : Below w.heap.size w W10 := below_then HB8 hk10
    have x10 := (x8.kept hk10).cells
    have x10n := (x8n.kept hk10).cells
    have hsame := same_any k n b s A p c k n b s A7 p c7 W10 (HR.out.below HB10) (hrA8.below hk10)
    rw [HSM.out] at hsame
    have hadd : RowKit.wrap64 ((av.length : Int) + (en.length : Int)) = (av.length : Int) + (en.length : Int) := by unfold RowKit.wrap64; omega
    have hee : (((av.length : Int) + (en.length : Int)) == ((av.length : Int) + (en.length : Int))) = true := by simp
    have hbe : (D7.bad.e == (21 : Int)) = true := by decide
    clear hW10 hk10 hb9 hrA9 hrA8 x8 x8n HB8 hsl8
    go_wp2_with (go_at_call 24; go_loud (refine hsame.mono ?_))
    first
      | (intro e W11 he hb11; subst he)
      | rintro e W11 ⟨rfl, hb11⟩
    have HB11 := below_then HB10 hb11
    go_wp2
    go_ret
    exact ⟨rfl, HB11⟩
end Go.Proofs.YthafbdkjpgeopaaDoor
