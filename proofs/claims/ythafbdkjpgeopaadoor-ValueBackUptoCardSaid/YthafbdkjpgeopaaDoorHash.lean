/- The walks of value.Hash and the document's Hash. -/
import Derived.Test.YthafbdkjpgeopaaDoorEncS
import Derived.Test.YthafbdkjpgeopaaDoorLineW
import Derived.Test.YthafbdkjpgeopaaDoorLawW
set_option linter.unusedVariables false
set_option linter.unusedSimpArgs false
namespace Go.Proofs.YthafbdkjpgeopaaDoor
open Go.RowKit

/-- A value's fields, as the walks name them. -/
structure V5 where
  k : Int
  n : Int
  b : Bool
  s : ByteArray
  A : Option Addr
  p : List Int
  c : Nat
def V5.val (v : V5) : Value := .agg #[.int .i64 v.k, .bool v.b, .int .i64 v.n, .string v.s, .slice v.A v.p.length v.c]
def V5.cells (v : V5) : List Value := [.int .i64 v.k, .bool v.b, .int .i64 v.n, .string v.s, .slice v.A v.p.length v.c]
def V5.enc (v : V5) : List Value := encL v.k v.b v.n v.s v.p
def V5.zero : V5 := ⟨0, 0, false, ⟨#[]⟩, none, [], 0⟩
/-- Five cells that hold a value. -/
structure Holds5 (W : World) (ad : Addr) (v : V5) : Prop where
  lt : ad.block < W.heap.size
  spot : ad.spot = none
  c0 : W.cell? ad = some (.int .i64 v.k)
  c1 : W.cell? ⟨ad.block, ad.off + 1, none⟩ = some (.bool v.b)
  c2 : W.cell? ⟨ad.block, ad.off + 2, none⟩ = some (.int .i64 v.n)
  c3 : W.cell? ⟨ad.block, ad.off + 3, none⟩ = some (.string v.s)
  c4 : W.cell? ⟨ad.block, ad.off + 4, none⟩ = some (.slice v.A v.p.length v.c)
/-- A slice of values, as it is read. -/
structure ReadsV (W : World) (A : Option Addr) (vs : List V5) : Prop where
  len : vs.length ≤ 9223372036854775807
  row : ∀ j, j < vs.length → ∃ ad, A = some ad ∧ Holds5 W (ad.add (j * 5)) (vs.getD j V5.zero)
  path : ∀ v ∈ vs, ReadsI W v.A v.p
  num : ∀ v ∈ vs, -9223372036854775808 ≤ v.n ∧ v.n ≤ 9223372036854775807
/-- An own row, as a slice that is read. -/
theorem own_slice {W : World} {B : Nat} {e : TypeId} {v : Value} {xs : List Value} (h : W.ownsRow B e 1 v xs.length xs) :
    ∃ (A : Option Addr) (cap : Nat), v = .slice A xs.length cap ∧ xs.length ≤ 9223372036854775807 ∧ ∀ j, j < xs.length → ∃ ad, A = some ad ∧ W.cell? (ad.add j) = xs[j]? := by
  rcases h with ⟨hl, ⟨rfl, h0⟩ | ⟨g, cap, cur, rfl, hg, hh, hn, hm, hs, htk⟩⟩
  · rw [h0]
    exact ⟨none, 0, rfl, by omega, fun j hj => absurd hj (by omega)⟩
  · refine ⟨_, cap, rfl, by unfold maxLen at hm; omega, fun j hj => ⟨_, rfl, ?_⟩⟩
    have := World.ownsRow.cells (base := B) (e := e) (size := 1) ⟨hl, .inr ⟨g, cap, cur, rfl, hg, hh, hn, hm, hs, htk⟩⟩ (g := g) rfl j (xs[j]) (List.getElem?_eq_getElem hj)
    rw [this, List.getElem?_eq_getElem hj]
/-- One byte's step of the number. -/
def hstep (h x : Int) : Int := IntKind.u64.wrap (bits BinOp.xor IntKind.u64 h x * 1099511628211)
theorem hstep_range (h x : Int) : 0 ≤ hstep h x ∧ hstep h x ≤ 18446744073709551615 := by
  unfold hstep
  rw [wrap64]
  omega
def hashB (xs : List Value) (h : Int) : Int := xs.foldl (fun h x => hstep h (intOf x)) h
def hashV (vs : List V5) (h : Int) : Int := vs.foldl (fun h v => hashB v.enc h) h
theorem hashB_take (xs : List Value) (j : Nat) (h x : Int) (hx : xs[j]? = some (.int .u8 x)) : hashB (xs.take (j + 1)) h = hstep (hashB (xs.take j) h) x := by
  unfold hashB
  rw [List.take_add_one, hx]
  simp [List.foldl_append, intOf]
theorem hashV_take (vs : List V5) (k : Nat) (h : Int) (hk : k < vs.length) : hashV (vs.take (k + 1)) h = hashB (vs.getD k V5.zero).enc (hashV (vs.take k) h) := by
  unfold hashV
  have e : vs.take (k + 1) = vs.take k ++ [vs[k]] := by
    rw [List.take_add_one, List.getElem?_eq_getElem hk]
    rfl
  rw [e, List.foldl_append, List.getD_eq_getElem?_getD, List.getElem?_eq_getElem hk]
  rfl
theorem add_spot (ad : Addr) (h : ad.spot = none) (n : Nat) : (ad.add n).spot = none := by
  obtain ⟨b, o, sp⟩ := ad
  simp only at h
  subst h
  unfold Addr.add
  split <;> rfl
set_option maxRecDepth 100000 in
set_option maxHeartbeats 3200000 in
theorem hash_any (A : Option Addr) (vs : List V5) (c : Nat) (w : World) (hr : ReadsV w A vs) :
    Calls Tryd.prog 42 #[.slice A vs.length c] w fun e w' => e = .returned (.int .u64 (hashV vs 14695981039346656037)) ∧ Below w.heap.size w w' := by
  have hlen := hr.len
  obtain ⟨ANS, hANS⟩ : ∃ ANS, hashV vs 14695981039346656037 = ANS := ⟨_, rfl⟩
  rw [hANS]
  have HA := Aside0.mk hANS
  obtain ⟨m, hm⟩ : ∃ m, m = vs.length := ⟨_, rfl⟩
  rw [← hm] at hlen ⊢
  have HM := Aside0.mk hm
  have HR := Aside0.mk hr
  clear hr hm hANS
  go_enter Tryd.func42, Tryd.ntmps42
  go_wp2
  go_loopg [3, 10] (m + 1) (fun gg s3 sk wr => ∃ k : Nat, ∃ h : Int, k ≤ m ∧ m < gg + k ∧ sk = .int .i64 k ∧ s3 = .int .u64 h ∧ 0 ≤ h ∧ h ≤ 18446744073709551615 ∧ Below w.heap.size w wr ∧ Aside0 (h = hashV (vs.take k) 14695981039346656037))
  case atStart => exact ⟨0, _, by omega, by omega, rfl, rfl, by omega, by omega, Below.refl _ _, ⟨rfl⟩⟩
  case round =>
    obtain ⟨k, h, hk, hg, rfl, rfl, h0, h1, HB, HH⟩ := hrel
    by_cases hlt : k < m
    · have hlti : (k : Int) < (m : Int) := by omega
      have hk0 : (0 : Int) ≤ (k : Int) := by omega
      obtain ⟨ad, rfl, hh⟩ := HR.out.row k (by have := HM.out; omega)
      have hp := HR.out.path (vs.getD k V5.zero) (by rw [List.getD_eq_getElem?_getD, List.getElem?_eq_getElem (by have := HM.out; omega)]; exact List.getElem_mem _)
      have hn := HR.out.num (vs.getD k V5.zero) (by rw [List.getD_eq_getElem?_getD, List.getElem?_eq_getElem (by have := HM.out; omega)]; exact List.getElem_mem _)
      have hnx := hashV_take vs k 14695981039346656037 (by have := HM.out; omega)
      rw [← HH.out] at hnx
      generalize hv : vs.getD k V5.zero = v at hh hp hn hnx
      obtain ⟨vk, vn, vb, vss, vA, vp, vc⟩ := v
      obtain ⟨hb, hsp, c0, c1, c2, c3, c4⟩ := hh
      simp only at hp hn c0 c1 c2 c3 c4
      have hE := fun W hW => enc_any vk vn vb vss vA vp vc W ((hp.below HB).below hW) hn
      have hbl : (ad.add (k * 5)).block < wr.heap.size := by have := HB.size; omega
      rw [← HB.cell hb] at c0
      rw [← HB.cell (p := ⟨(ad.add (k * 5)).block, (ad.add (k * 5)).off + 1, none⟩) hb] at c1
      rw [← HB.cell (p := ⟨(ad.add (k * 5)).block, (ad.add (k * 5)).off + 2, none⟩) hb] at c2
      rw [← HB.cell (p := ⟨(ad.add (k * 5)).block, (ad.add (k * 5)).off + 3, none⟩) hb] at c3
      rw [← HB.cell (p := ⟨(ad.add (k * 5)).block, (ad.add (k * 5)).off + 4, none⟩) hb] at c4
      have HV := Aside0.mk hv
      have h8 := bytes8_enc vk vb vn vss vp
      rw [show V5.enc ⟨vk, vn, vb, vss, vA, vp, vc⟩ = encL vk vb vn vss vp from rfl] at hnx
      generalize encL vk vb vn vss vp = X at hE h8 hnx
      have H8 := Aside0.mk h8
      have HN := Aside0.mk hnx
      obtain ⟨GO, hGO⟩ : ∃ G, G = gk := ⟨_, rfl⟩
      clear hv hp hn h8 hnx hsp
      go_wp2_with (go_at_call 23; refine (hE _ (below_more (Below.refl _ _) _)).mono ?_; rintro e w1 ⟨v1, rfl, ho1, hb1⟩; obtain ⟨A1, cap1, rfl, hL1, hX1⟩ := own_slice ho1; obtain ⟨L, hLL⟩ : ∃ L, L = X.length := ⟨_, rfl⟩; rw [← hLL] at hL1 hX1; rw [← hLL]; have HB1 : Below w.heap.size w w1 := below_then (below_more HB _) hb1; have HLL := Aside0.mk hLL; clear ho1 hb1 hLL)
      go_loopg [3, 17] (L + 1) (fun gg s3 sj wx => ∃ j : Nat, ∃ h' : Int, j ≤ L ∧ L < gg + j ∧ sj = .int .i64 j ∧ s3 = .int .u64 h' ∧ 0 ≤ h' ∧ h' ≤ 18446744073709551615 ∧ wx = w1 ∧ Aside0 (h' = hashB (X.take j) h))
      case atStart => exact ⟨0, h, by omega, by omega, rfl, rfl, h0, h1, rfl, ⟨rfl⟩⟩
      case round =>
        obtain ⟨j, h', hj, hgj, rfl, rfl, h0', h1', rfl, HJ⟩ := hrel
        by_cases hltj : j < L
        · have hltij : (j : Int) < (L : Int) := by omega
          have hj0 : (0 : Int) ≤ (j : Int) := by omega
          obtain ⟨ad1, rfl, hcj⟩ := hX1 j hltj
          have hx : ∃ x : Int, X[j]? = some (.int .u8 x) ∧ 0 ≤ x ∧ x < 256 := by
            have hjl : j < X.length := by have := HLL.out; omega
            obtain ⟨x, e, e0, e1⟩ := H8.out X[j] (List.getElem_mem hjl)
            exact ⟨x, by rw [List.getElem?_eq_getElem hjl, e], e0, e1⟩
          obtain ⟨x, hx, hx0, hx1⟩ := hx
          rw [hx] at hcj
          have HX := Aside0.mk (hashB_take X j h x hx)
          clear hx
          go_wp2_with fail
          go_roundg (gk - 1)
          case measure => omega
          case rel =>
            have hrg := hstep_range h' x
            refine ⟨j + 1, hstep h' x, by omega, by omega, by go_num, rfl, hrg.1, hrg.2, rfl, ⟨?_⟩⟩
            rw [HX.out, ← HJ.out]
        · obtain rfl : j = L := by omega
          have hf : hashB X h = h' := by
            rw [HJ.out, HLL.out, List.take_length]
          have HF := Aside0.mk hf
          clear hltj hf
          go_wp2_with fail
          go_roundg (GO - 1)
          case measure => omega
          case rel =>
            refine ⟨k + 1, h', by omega, by omega, by go_num, rfl, h0', h1', HB1, ⟨?_⟩⟩
            rw [HN.out, HF.out]
    · obtain rfl : k = m := by omega
      have hf : h = ANS := by rw [HH.out, HM.out, List.take_length, HA.out]
      subst hf
      clear hlt
      go_wp2_with fail
      go_ret
      exact ⟨rfl, HB⟩
set_option maxRecDepth 100000 in
set_option maxHeartbeats 3200000 in
theorem rhash_any (A : Option Addr) (vs : List V5) (c : Nat) (w : World) (hr : ReadsV w A vs) (hsz : ∀ v ∈ vs, v.s.size ≤ 9223372036854775807) (hT : Lib.Utf8Tabs 0 1 w) :
    Calls Tryd.prog 43 #[.slice A vs.length c] w fun e w' => e = .returned (.int .u64 (hashV vs 14695981039346656037)) ∧ Below w.heap.size w w' := by
  have hlen := hr.len
  obtain ⟨ANS, hANS⟩ : ∃ ANS, hashV vs 14695981039346656037 = ANS := ⟨_, rfl⟩
  rw [hANS]
  have HA := Aside0.mk hANS
  obtain ⟨m, hm⟩ : ∃ m, m = vs.length := ⟨_, rfl⟩
  rw [← hm] at hlen ⊢
  have HM := Aside0.mk hm
  have HR := Aside0.mk hr
  have HT := Aside0.mk hT
  have HS := Aside0.mk hsz
  clear hT hsz
  clear hr hm hANS
  go_enter Tryd.func43, Tryd.ntmps43
  go_wp2
  go_loopg [3, 4] (m + 1) (fun gg s3 sk wr => ∃ k : Nat, ∃ h : Int, k ≤ m ∧ m < gg + k ∧ sk = .int .i64 k ∧ s3 = .int .u64 h ∧ 0 ≤ h ∧ h ≤ 18446744073709551615 ∧ Below w.heap.size w wr ∧ Aside0 (h = hashV (vs.take k) 14695981039346656037))
  case atStart => exact ⟨0, _, by omega, by omega, rfl, rfl, by omega, by omega, Below.refl _ _, ⟨rfl⟩⟩
  case round =>
    obtain ⟨k, h, hk, hg, rfl, rfl, h0, h1, HB, HH⟩ := hrel
    by_cases hlt : k < m
    · have hlti : (k : Int) < (m : Int) := by omega
      have hk0 : (0 : Int) ≤ (k : Int) := by omega
      obtain ⟨ad, rfl, hh⟩ := HR.out.row k (by have := HM.out; omega)
      have hp := HR.out.path (vs.getD k V5.zero) (by rw [List.getD_eq_getElem?_getD, List.getElem?_eq_getElem (by have := HM.out; omega)]; exact List.getElem_mem _)
      have hn := HR.out.num (vs.getD k V5.zero) (by rw [List.getD_eq_getElem?_getD, List.getElem?_eq_getElem (by have := HM.out; omega)]; exact List.getElem_mem _)
      have hz := HS.out (vs.getD k V5.zero) (by rw [List.getD_eq_getElem?_getD, List.getElem?_eq_getElem (by have := HM.out; omega)]; exact List.getElem_mem _)
      have hnx := hashV_take vs k 14695981039346656037 (by have := HM.out; omega)
      rw [← HH.out] at hnx
      generalize hv : vs.getD k V5.zero = v at hh hp hn hnx hz
      obtain ⟨vk, vn, vb, vss, vA, vp, vc⟩ := v
      obtain ⟨hb, hsp, c0, c1, c2, c3, c4⟩ := hh
      simp only at hp hn c0 c1 c2 c3 c4 hz
      have hE := fun W hW => renc_any vk vn vb vss vA vp vc W ((hp.below HB).below hW) hn hz (Utf8Tabs_below (Utf8Tabs_below HT.out HB) hW)
      have hbl : (ad.add (k * 5)).block < wr.heap.size := by have := HB.size; omega
      rw [← HB.cell hb] at c0
      rw [← HB.cell (p := ⟨(ad.add (k * 5)).block, (ad.add (k * 5)).off + 1, none⟩) hb] at c1
      rw [← HB.cell (p := ⟨(ad.add (k * 5)).block, (ad.add (k * 5)).off + 2, none⟩) hb] at c2
      rw [← HB.cell (p := ⟨(ad.add (k * 5)).block, (ad.add (k * 5)).off + 3, none⟩) hb] at c3
      rw [← HB.cell (p := ⟨(ad.add (k * 5)).block, (ad.add (k * 5)).off + 4, none⟩) hb] at c4
      have HV := Aside0.mk hv
      have h8 := bytes8_enc vk vb vn vss vp
      rw [show V5.enc ⟨vk, vn, vb, vss, vA, vp, vc⟩ = encL vk vb vn vss vp from rfl] at hnx
      generalize encL vk vb vn vss vp = X at hE h8 hnx
      have H8 := Aside0.mk h8
      have HN := Aside0.mk hnx
      obtain ⟨GO, hGO⟩ : ∃ G, G = gk := ⟨_, rfl⟩
      clear hv hp hn h8 hnx hsp
      go_wp2_with (go_at_call 41; refine (hE _ (Below.refl _ _)).mono ?_; rintro e w1 ⟨v1, rfl, ho1, hb1⟩; obtain ⟨A1, cap1, rfl, hL1, hX1⟩ := own_slice ho1; obtain ⟨L, hLL⟩ : ∃ L, L = X.length := ⟨_, rfl⟩; rw [← hLL] at hL1 hX1; rw [← hLL]; have HB1 : Below w.heap.size w w1 := below_then HB hb1; have HLL := Aside0.mk hLL; clear ho1 hb1 hLL)
      go_loopg [3, 6] (L + 1) (fun gg s3 sj wx => ∃ j : Nat, ∃ h' : Int, j ≤ L ∧ L < gg + j ∧ sj = .int .i64 j ∧ s3 = .int .u64 h' ∧ 0 ≤ h' ∧ h' ≤ 18446744073709551615 ∧ wx = w1 ∧ Aside0 (h' = hashB (X.take j) h))
      case atStart => exact ⟨0, h, by omega, by omega, rfl, rfl, h0, h1, rfl, ⟨rfl⟩⟩
      case round =>
        obtain ⟨j, h', hj, hgj, rfl, rfl, h0', h1', rfl, HJ⟩ := hrel
        by_cases hltj : j < L
        · have hltij : (j : Int) < (L : Int) := by omega
          have hj0 : (0 : Int) ≤ (j : Int) := by omega
          obtain ⟨ad1, rfl, hcj⟩ := hX1 j hltj
          have hx : ∃ x : Int, X[j]? = some (.int .u8 x) ∧ 0 ≤ x ∧ x < 256 := by
            have hjl : j < X.length := by have := HLL.out; omega
            obtain ⟨x, e, e0, e1⟩ := H8.out X[j] (List.getElem_mem hjl)
            exact ⟨x, by rw [List.getElem?_eq_getElem hjl, e], e0, e1⟩
          obtain ⟨x, hx, hx0, hx1⟩ := hx
          rw [hx] at hcj
          have HX := Aside0.mk (hashB_take X j h x hx)
          clear hx
          go_wp2_with fail
          go_roundg (gk - 1)
          case measure => omega
          case rel =>
            have hrg := hstep_range h' x
            refine ⟨j + 1, hstep h' x, by omega, by omega, by go_num, rfl, hrg.1, hrg.2, rfl, ⟨?_⟩⟩
            rw [HX.out, ← HJ.out]
        · obtain rfl : j = L := by omega
          have hf : hashB X h = h' := by
            rw [HJ.out, HLL.out, List.take_length]
          have HF := Aside0.mk hf
          clear hltj hf
          go_wp2_with fail
          go_roundg (GO - 1)
          case measure => omega
          case rel =>
            refine ⟨k + 1, h', by omega, by omega, by go_num, rfl, h0', h1', HB1, ⟨?_⟩⟩
            rw [HN.out, HF.out]
    · obtain rfl : k = m := by omega
      have hf : h = ANS := by rw [HH.out, HM.out, List.take_length, HA.out]
      subst hf
      clear hlt
      go_wp2_with fail
      go_ret
      exact ⟨rfl, HB⟩
end Go.Proofs.YthafbdkjpgeopaaDoor
