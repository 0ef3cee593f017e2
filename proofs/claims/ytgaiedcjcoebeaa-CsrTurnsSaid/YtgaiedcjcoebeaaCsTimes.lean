/- portolanlaw06.times: in how many lists a number stands. -/
import Derived.Test.YtgaiedcjcoebeaaCsHead
set_option linter.unusedVariables false
set_option linter.unusedSimpArgs false
namespace Go.Proofs.Ytgaiedcjcoebeaa
open Go.RowKit

theorem take_contains (l : List Int) (k : Nat) (hk : k < l.length) (v : Int) : (l.take (k + 1)).contains v = ((l.take k).contains v || l.getD k 0 == v) := by
  rw [List.take_add_one, List.getD_eq_getElem?_getD, List.getElem?_eq_getElem hk, Option.toList_some, List.contains_append]
  congr 1
  simp only [Option.getD_some, List.contains_cons, List.contains_nil, Bool.or_false]
  rw [Bool.eq_iff_iff, beq_iff_eq, beq_iff_eq]
  exact ⟨Eq.symm, Eq.symm⟩
set_option maxRecDepth 100000 in
set_option maxHeartbeats 3200000 in
theorem times_any (A : Option Addr) (rs : List R3) (c : Nat) (v : Int) (w : World) (hr : ReadsL w A rs) (hsm : Small rs) :
    Calls Try.prog 10 #[.slice A rs.length c, .int .i64 v] w fun e w' => e = .returned (.int .i64 (timesL (lsOf rs) v : Nat)) ∧ Below w.heap.size w w' := by
  obtain ⟨m, hm⟩ : ∃ m, m = rs.length := ⟨_, rfl⟩
  obtain ⟨ls, hls⟩ : ∃ ls, ls = lsOf rs := ⟨_, rfl⟩
  rw [← hm, ← hls]
  have hlm : ls.length = m := by rw [hls, hm]; simp [lsOf]
  have hm63 : (m : Int) ≤ 5864062014805 := by have := hsm.rows; omega
  obtain ⟨R, hR⟩ : ∃ R, R = timesL ls v := ⟨_, rfl⟩
  rw [← hR]
  have HR := Aside0.mk hr
  have HS := Aside0.mk hsm
  have HM := Aside0.mk hm
  have HL := Aside0.mk hls
  have HLM := Aside0.mk hlm
  have HC := Aside0.mk hR
  clear hr hsm hm hls hlm hR
  go_enter Try.func10, Try.ntmps10
  go_wp2
  go_loopg [5, 6] (m + 1) (fun gg s5 s6 wr => ∃ i q : Nat, i ≤ m ∧ m < gg + i ∧ s5 = .int .i64 q ∧ s6 = .int .i64 i ∧ q ≤ i ∧ wr = w ∧ Aside0 (q = timesL (ls.take i) v))
  case atStart => exact ⟨0, 0, by omega, by omega, rfl, rfl, by omega, rfl, ⟨rfl⟩⟩
  case round =>
    obtain ⟨i, q, hi, hg, rfl, rfl, hqi, rfl, HQ⟩ := hrel
    have hi0 : (0 : Int) ≤ (i : Int) := by omega
    have hq0 : (0 : Int) ≤ (q : Int) := by omega
    have hqs : (q : Int) ≤ 5864062014805 := by omega
    have his : (i : Int) ≤ 5864062014805 := by omega
    obtain ⟨G, hG⟩ : ∃ G, G = gk := ⟨_, rfl⟩
    have HG := Aside0.mk hG
    have HQI := Aside0.mk hqi
    clear hG hqi
    by_cases hlt : i < m
    · have hlti : (i : Int) < (m : Int) := by omega
      have hjr : i < rs.length := by have := HM.out; omega
      obtain ⟨ad0, hA0, -, hc0⟩ := HR.out.row i hjr
      have hri := HR.out.each _ (getD_mem rs i hjr)
      have hnum := HS.out.nums _ (getD_mem rs i hjr)
      have hlj : ls.getD i [] = (rs.getD i r30).l := by rw [HL.out]; exact lsOf_getD rs i hjr
      have hst := times_take ls v i (by have := HLM.out; omega)
      rw [hlj, ← HQ.out] at hst
      subst hA0
      generalize rs.getD i r30 = r at hc0 hri hnum hst
      obtain ⟨Ar, l, cr⟩ := r
      simp only [R3.val] at hc0 hri hnum hst
      obtain ⟨n, hn⟩ : ∃ n, n = l.length := ⟨_, rfl⟩
      rw [← hn] at hc0 hnum
      have hni : (n : Int) ≤ 17592186044416 := by omega
      have HN := Aside0.mk hn
      have HRI := Aside0.mk hri
      have HST := Aside0.mk hst
      clear hn hri hlj hst HQ
      go_wp2
      go_loopg [7, 8] (n + 1) (fun gg s7 s8 wx => ∃ (k : Nat) (b : Bool), k ≤ n ∧ n < gg + k ∧ s7 = .bool b ∧ s8 = .int .i64 k ∧ wx = wr ∧ Aside0 (b = (l.take k).contains v))
      case atStart => exact ⟨0, false, by omega, by omega, rfl, rfl, rfl, ⟨rfl⟩⟩
      case round =>
        obtain ⟨k, b, hk, hgk, rfl, rfl, rfl, HB⟩ := hrel
        have hk0 : (0 : Int) ≤ (k : Int) := by omega
        by_cases hkn : k < n
        · have hkni : (k : Int) < (n : Int) := by omega
          have hkl : k < l.length := by have := HN.out; omega
          obtain ⟨ad, hA, hcs⟩ := HRI.out.2 (by omega)
          have hc := hcs k hkl
          have hst := take_contains l k hkl v
          rw [← HB.out] at hst
          subst hA
          clear hcs HB
          generalize l.getD k 0 = x at hc hst
          cases b
          · obtain ⟨e, he⟩ : ∃ e, e = (x == v) := ⟨_, rfl⟩
            rw [Bool.false_or, ← he] at hst
            have HS2 := Aside0.mk hst
            have he2 := he.symm
            clear hst he
            go_wp2
            go_roundg (gk - 1)
            case measure => omega
            case rel => exact ⟨k + 1, e, by omega, by omega, by simp [he2], by go_num, rfl, ⟨HS2.out.symm⟩⟩
          · rw [Bool.true_or] at hst
            have HS2 := Aside0.mk hst
            clear hst
            go_wp2
            go_roundg (gk - 1)
            case measure => omega
            case rel => exact ⟨k + 1, true, by omega, by omega, rfl, by go_num, rfl, ⟨HS2.out.symm⟩⟩
        · obtain rfl : k = n := by omega
          have hkn' : ¬ (k : Int) < (k : Int) := by omega
          have hb : b = l.contains v := by
            rw [HB.out, List.take_of_length_le (by have := HN.out; omega)]
          have hst := HST.out
          rw [← hb] at hst
          have HS2 := Aside0.mk hst
          clear hb hst HB HST
          cases b
          · go_wp2
            go_roundg (G - 1)
            case measure => have := HG.out; omega
            case rel => exact ⟨i + 1, q, by omega, by have := HG.out; omega, rfl, by go_num, by have := HQI.out; omega, rfl, ⟨by rw [HS2.out]; simp⟩⟩
          · go_wp2
            go_roundg (G - 1)
            case measure => have := HG.out; omega
            case rel => exact ⟨i + 1, q + 1, by omega, by have := HG.out; omega, by go_num, by go_num, by have := HQI.out; omega, rfl, ⟨by rw [HS2.out]; simp⟩⟩
    · obtain rfl : i = m := by omega
      have hn : ¬ (i : Int) < (i : Int) := by omega
      have hq : q = R := by rw [HQ.out, HC.out, List.take_of_length_le (by have := HLM.out; omega)]
      subst hq
      clear HQ HC
      go_wp2
      go_ret
      exact ⟨rfl, Below.refl _ _⟩
end Go.Proofs.Ytgaiedcjcoebeaa
