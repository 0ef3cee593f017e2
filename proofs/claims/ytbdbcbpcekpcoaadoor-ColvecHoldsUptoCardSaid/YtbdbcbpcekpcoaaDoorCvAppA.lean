/- colvec.Append, whole. -/
import Derived.Test.YtbdbcbpcekpcoaaDoorCvAppT
import Derived.Test.YtbdbcbpcekpcoaaDoorCvAppB
import Derived.Test.YtbdbcbpcekpcoaaDoorCvOf
set_option linter.unusedVariables false
set_option linter.unusedSimpArgs false
namespace Go.Proofs.YtbdbcbpcekpcoaaDoor
open Go.RowKit Go.Maps

theorem right_text {n : Int} {b : Bool} {s : ByteArray} {p : List Int} (h : rightB 3 b n s p = true) : s.size ≤ 4096 := by
  simp [rightB, textB] at h
  exact h.2.1
theorem appOk_any (k : Int) (hk : 1 ≤ k ∧ k ≤ 6) (v : V5) : AppOk k v := by
  cases hR : rightB v.k v.b v.n v.s v.p with
  | false =>
    intro F b s w hV hs hwf hN hrd
    obtain ⟨vk, vn, vb, vs, vA, vp, vc⟩ := v
    have hfit : fitsV k ⟨vk, vn, vb, vs, vA, vp, vc⟩ = false := by unfold fitsV; simp only at hR; simp [hR]
    have hst : stepV s ⟨vk, vn, vb, vs, vA, vp, vc⟩ = s := by rw [stepV, hs, hfit]; rfl
    have her : errV k ⟨vk, vn, vb, vs, vA, vp, vc⟩ = 31 := by rw [errV, hfit]; rfl
    rw [hst, her]
    exact app_bad k vk vn vb vs vA vp vc F b s w hV hs hrd hR
  | true =>
    by_cases hv : v.k = k ∨ v.k = 0
    · by_cases hn : k = 2 ∨ k = 4 ∨ k = 5
      · exact appOk_num k v hn hv hR
      · intro F b s w hV hs hwf hN hrd
        obtain ⟨vk, vn, vb, vs, vA, vp, vc⟩ := v
        simp only at hv hR hrd
        have hfit : fitsV k ⟨vk, vn, vb, vs, vA, vp, vc⟩ = true := by
          unfold fitsV
          simp only [hR, Bool.true_and, Bool.or_eq_true, beq_iff_eq]
          exact hv
        have hst : stepV s ⟨vk, vn, vb, vs, vA, vp, vc⟩ = pushV s ⟨vk, vn, vb, vs, vA, vp, vc⟩ := by rw [stepV, hs, if_pos hfit]
        have her : errV k ⟨vk, vn, vb, vs, vA, vp, vc⟩ = 0 := if_pos hfit
        rw [hst, her]
        have hkk : k = 1 ∨ k = 3 ∨ k = 6 := by omega
        rcases hkk with rfl | rfl | rfl
        · have hN : s.nl.length ≤ 100000000000 := hN
          have hbl := hwf.bools hs
          have e : pushV s ⟨vk, vn, vb, vs, vA, vp, vc⟩ = { s with nl := s.nl ++ [vk == 0], bl := s.bl ++ [vb] } := by rw [pushV, if_neg (by omega), if_pos hs]
          rw [e]
          rcases hv with rfl | rfl
          · exact app_b vn vb vs vA vp vc F b s w hV hs hrd hR hN hbl
          · exact app_b_null vn vb vs vA vp vc F b s w hV hs hrd hR hN hbl
        · have hN : s.nl.length ≤ 8796093022207 := hN
          have hil := hwf.ints (by omega)
          rcases hv with rfl | rfl
          · by_cases hin : vs.data.toList ∈ keysL s.dl
            · have e : pushV s ⟨3, vn, vb, vs, vA, vp, vc⟩ = { s with nl := s.nl ++ [false], il := s.il ++ [((keysL s.dl).idxOf vs.data.toList : Int)] } := by
                rw [pushV, if_neg (by omega), if_neg (by omega), if_pos rfl]
                simp only [if_pos hin]
                rfl
              rw [e]
              exact app_t_hit vn vb vs vA vp vc F b s w hV hs hrd hR hN hil (right_text hR) hwf.dict _ rfl hin hwf.nodup
            · have e : pushV s ⟨3, vn, vb, vs, vA, vp, vc⟩ = { s with nl := s.nl ++ [false], il := s.il ++ [(s.dl.length : Int)], dl := s.dl ++ [vs] } := by
                rw [pushV, if_neg (by omega), if_neg (by omega), if_pos rfl]
                simp only [if_neg hin, idx_none s.dl _ hin]
                rfl
              rw [e]
              exact app_t_new vn vb vs vA vp vc F b s w hV hs hrd hR hN hil (right_text hR) hwf.dict hin
          · have e : pushV s ⟨0, vn, vb, vs, vA, vp, vc⟩ = { s with nl := s.nl ++ [true], il := s.il ++ [vn] } := by
              rw [pushV, if_neg (by omega), if_neg (by omega), if_neg (by simp only; omega)]
              rfl
            rw [e]
            exact app_null 3 vn vb vs vA vp vc F b s w hV hs (by omega) hrd hR (by omega) hil
        · have hN : s.nl.length ≤ 100000000000 := hN
          have hil := hwf.ints (by omega)
          have e : pushV s ⟨vk, vn, vb, vs, vA, vp, vc⟩ = { s with nl := s.nl ++ [vk == 0], il := s.il ++ [((s.hp ++ vp).length : Int)], hp := s.hp ++ vp } := by rw [pushV, if_pos hs]
          rw [e]
          rcases hv with rfl | rfl
          · exact app_p vn vb vs vA vp vc F b s w hV hs hrd hR hN hil hwf.heap (right_path hR)
          · exact app_p_null vn vb vs vA vp vc F b s w hV hs hrd hR hN hil hwf.heap (right_path hR)
    · intro F b s w hV hs hwf hN hrd
      obtain ⟨vk, vn, vb, vs, vA, vp, vc⟩ := v
      simp only at hv hR hrd
      have h1 : ¬ vk = k := fun e => hv (.inl e)
      have h2 : ¬ vk = 0 := fun e => hv (.inr e)
      have hfit : fitsV k ⟨vk, vn, vb, vs, vA, vp, vc⟩ = false := by
        unfold fitsV
        simp [h1, h2]
      have hst : stepV s ⟨vk, vn, vb, vs, vA, vp, vc⟩ = s := by rw [stepV, hs, hfit]; rfl
      have her : errV k ⟨vk, vn, vb, vs, vA, vp, vc⟩ = 31 := by rw [errV, hfit]; rfl
      rw [hst, her]
      exact app_other k vk vn vb vs vA vp vc F b s w hV hs hrd hR h1 h2
/-- A column after some values, taken in or refused. -/
def stepsL (k : Int) (vs : List V5) : VS := vs.foldl stepV (VS.new k)
theorem step_k (s : VS) (v : V5) : (stepV s v).k = s.k := by
  unfold stepV
  split
  · exact push_k s v
  · rfl
theorem wf_step (s : VS) (v : V5) (h : WF s) : WF (stepV s v) := by
  unfold stepV
  split
  · rename_i hf
    exact wf_push s v h hf
  · exact h
theorem steps_snoc (k : Int) (vs : List V5) (j : Nat) (h : j < vs.length) : stepsL k (vs.take (j + 1)) = stepV (stepsL k (vs.take j)) (vs.getD j V5.zero) := by
  have e : vs.take (j + 1) = vs.take j ++ [vs.getD j V5.zero] := by
    rw [List.take_add_one, List.getD_eq_getElem?_getD, List.getElem?_eq_getElem h]
    rfl
  rw [stepsL, stepsL, e, List.foldl_append]
  rfl
theorem steps_all (k : Int) (hk : 1 ≤ k ∧ k ≤ 6) : ∀ (vs : List V5) (s : VS), s.k = k → WF s → (vs.foldl stepV s).k = k ∧ WF (vs.foldl stepV s) ∧ (vs.foldl stepV s).nl.length ≤ s.nl.length + vs.length
  | [], s, hs, h => ⟨hs, h, Nat.le_refl _⟩
  | v :: r, s, hs, h => by
    obtain ⟨h1, h2, h3⟩ := steps_all k hk r (stepV s v) (by rw [step_k, hs]) (wf_step s v h)
    refine ⟨h1, h2, Nat.le_trans h3 ?_⟩
    have : (stepV s v).nl.length ≤ s.nl.length + 1 := by
      unfold stepV
      split
      · rw [push_len]; simp
      · omega
    rw [List.length_cons]
    omega
end Go.Proofs.YtbdbcbpcekpcoaaDoor
