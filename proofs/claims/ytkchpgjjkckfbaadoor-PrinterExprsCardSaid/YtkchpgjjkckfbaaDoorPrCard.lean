/- Words for this seat's cards: the six tables, a world that holds them; an expression that came in. -/
import Derived.Test.YtkchpgjjkckfbaaDoorRowW
import Derived.Test.YtkchpgjjkckfbaaDoorCards
import Derived.Test.YtkchpgjjkckfbaaDoorTie
import Derived.Test.YtkchpgjjkckfbaaDoorLxKey
import Derived.Test.YtkchpgjjkckfbaaDoorPrSho
import Derived.Test.YtkchpgjjkckfbaaDoorPrO
import Derived.Test.YtkchpgjjkckfbaaDoorShelfV
import Derived.Deep.DeepHandedRow
import Derived.Lib.LaidTab
import Derived.Lib.LaidU8T
import Derived.PinnedBridge
set_option linter.unusedVariables false
set_option linter.unusedSimpArgs false
namespace Go.Proofs.YtkchpgjjkckfbaaDoor
open Go.Joins Go.ChangeShapes Go.WideShapes Go.ChangeAt Go.RowKit Go.Deep

theorem own : ownKnob Tryd.prog.godebug = none := by kernel_rfl
theorem laidOutP : laidOutB Tryd.prog = true := by kernel_rfl
theorem accept_laid : (Rows.laid_unicode_utf8_acceptRanges : DataW Unit) = Lib.acceptData := by kernel_rfl
theorem first_laid : Rows.laid_unicode_utf8_first = Lib.firstData := Pinned.utf8First_eq
theorem keys_laid : (Rows.laid_portolan_lex_keys : DataW Unit) = .agg (keysL.map fun l => .lit (.string l)) := by kernel_rfl
theorem keys_named : Tryd.prog.globalNamed "portolan/lex.keys" = some 0 := by kernel_rfl
theorem keys_type : (Tryd.prog.globals[0]?).map (·.type) = some 148 := by kernel_rfl
theorem cells_str : Tryd.prog.cellsOf 9 = 1 := by kernel_rfl
theorem utabs_of {l : List (String × DataW Unit)} {W : World} (h : laidMetH Tryd.prog l W) (hn : (l.all fun x => x.2.handleName?.isNone) = true)
    (m3 : ("unicode/utf8.first", Rows.laid_unicode_utf8_first) ∈ l) (m4 : ("unicode/utf8.acceptRanges", Rows.laid_unicode_utf8_acceptRanges) ∈ l) : Lib.Utf8Tabs 1 2 W := by
  rw [MakeChecks.laidMetH_plain _ _ _ hn] at h
  rw [first_laid] at m3
  rw [accept_laid] at m4
  exact utf8Tabs_of_readsT (ρ := Tryd.lays196_ren) (U8Types.of196 Tryd.lays196) ⟨by kernel_rfl, by kernel_rfl, by kernel_rfl, by kernel_rfl, by kernel_rfl, by kernel_rfl, by kernel_rfl⟩ (Lib.laidMet.reads h m3) (Lib.laidMet.reads h m4)
/-- The words of the language lie as the row lists them. -/
theorem keys_of {l : List (String × DataW Unit)} {W : World} (h : laidMetH Tryd.prog l W) (hn : (l.all fun x => x.2.handleName?.isNone) = true)
    (m : ("portolan/lex.keys", Rows.laid_portolan_lex_keys) ∈ l) : KeysLie W := by
  rw [MakeChecks.laidMetH_plain _ _ _ hn] at h
  rw [keys_laid] at m
  obtain ⟨g, t, cs, fuel, p, hg, hty, hvar, hd⟩ := Lib.laidMet.reads h m
  obtain rfl := Option.some.inj (keys_named.symm.trans hg)
  obtain rfl := Option.some.inj (keys_type.symm.trans hty)
  intro j hj
  obtain ⟨fuel', d, q, hdi, he⟩ := Lib.array_elem Tryd.underlying148 hd j hj
  have hj' : j < keysL.length := hj
  rw [List.getElem?_map, List.getElem?_eq_getElem hj', Option.map_some, Option.some.injEq] at hdi
  subst hdi
  rw [cells_str] at he
  obtain ⟨s, hc, hx, _⟩ := DataW.trod_string Tryd.underlying9 he
  have hs : keysL[j] = s.data.toList := by
    have := congrArg Prod.fst hx
    simpa using this
  have e0 := congrArg (·[0]?) hc
  simp only [List.getElem?_take, List.getElem?_drop] at e0
  rw [World.var?_cell hg hvar j, ← Array.getElem?_toList]
  have e1 : cs.toList[j]? = some (Value.string s) := by simpa using e0
  rw [e1, List.getD_eq_getElem?_getD, List.getElem?_eq_getElem hj', Option.getD_some, hs]
def layAs (cs : Array Value) : Obj → Obj
  | .cells _ t frozen => .cells cs t frozen
  | o => o
def tabAcc : Array Value := #[.int .u8 128, .int .u8 191, .int .u8 160, .int .u8 191, .int .u8 128, .int .u8 159, .int .u8 144, .int .u8 191, .int .u8 128, .int .u8 143, .int .u8 0, .int .u8 0, .int .u8 0, .int .u8 0, .int .u8 0, .int .u8 0, .int .u8 0, .int .u8 0, .int .u8 0, .int .u8 0, .int .u8 0, .int .u8 0, .int .u8 0, .int .u8 0, .int .u8 0, .int .u8 0, .int .u8 0, .int .u8 0, .int .u8 0, .int .u8 0, .int .u8 0, .int .u8 0]
def tabFst : Array Value := #[.int .u8 240, .int .u8 240, .int .u8 240, .int .u8 240, .int .u8 240, .int .u8 240, .int .u8 240, .int .u8 240, .int .u8 240, .int .u8 240, .int .u8 240, .int .u8 240, .int .u8 240, .int .u8 240, .int .u8 240, .int .u8 240, .int .u8 240, .int .u8 240, .int .u8 240, .int .u8 240, .int .u8 240, .int .u8 240, .int .u8 240, .int .u8 240, .int .u8 240, .int .u8 240, .int .u8 240, .int .u8 240, .int .u8 240, .int .u8 240, .int .u8 240, .int .u8 240, .int .u8 240, .int .u8 240, .int .u8 240, .int .u8 240, .int .u8 240, .int .u8 240, .int .u8 240, .int .u8 240, .int .u8 240, .int .u8 240, .int .u8 240, .int .u8 240, .int .u8 240, .int .u8 240, .int .u8 240, .int .u8 240, .int .u8 240, .int .u8 240, .int .u8 240, .int .u8 240, .int .u8 240, .int .u8 240, .int .u8 240, .int .u8 240, .int .u8 240, .int .u8 240, .int .u8 240, .int .u8 240, .int .u8 240, .int .u8 240, .int .u8 240, .int .u8 240, .int .u8 240, .int .u8 240, .int .u8 240, .int .u8 240, .int .u8 240, .int .u8 240, .int .u8 240, .int .u8 240, .int .u8 240, .int .u8 240, .int .u8 240, .int .u8 240, .int .u8 240, .int .u8 240, .int .u8 240, .int .u8 240, .int .u8 240, .int .u8 240, .int .u8 240, .int .u8 240, .int .u8 240, .int .u8 240, .int .u8 240, .int .u8 240, .int .u8 240, .int .u8 240, .int .u8 240, .int .u8 240, .int .u8 240, .int .u8 240, .int .u8 240, .int .u8 240, .int .u8 240, .int .u8 240, .int .u8 240, .int .u8 240, .int .u8 240, .int .u8 240, .int .u8 240, .int .u8 240, .int .u8 240, .int .u8 240, .int .u8 240, .int .u8 240, .int .u8 240, .int .u8 240, .int .u8 240, .int .u8 240, .int .u8 240, .int .u8 240, .int .u8 240, .int .u8 240, .int .u8 240, .int .u8 240, .int .u8 240, .int .u8 240, .int .u8 240, .int .u8 240, .int .u8 240, .int .u8 240, .int .u8 240, .int .u8 240, .int .u8 240, .int .u8 240, .int .u8 241, .int .u8 241, .int .u8 241, .int .u8 241, .int .u8 241, .int .u8 241, .int .u8 241, .int .u8 241, .int .u8 241, .int .u8 241, .int .u8 241, .int .u8 241, .int .u8 241, .int .u8 241, .int .u8 241, .int .u8 241, .int .u8 241, .int .u8 241, .int .u8 241, .int .u8 241, .int .u8 241, .int .u8 241, .int .u8 241, .int .u8 241, .int .u8 241, .int .u8 241, .int .u8 241, .int .u8 241, .int .u8 241, .int .u8 241, .int .u8 241, .int .u8 241, .int .u8 241, .int .u8 241, .int .u8 241, .int .u8 241, .int .u8 241, .int .u8 241, .int .u8 241, .int .u8 241, .int .u8 241, .int .u8 241, .int .u8 241, .int .u8 241, .int .u8 241, .int .u8 241, .int .u8 241, .int .u8 241, .int .u8 241, .int .u8 241, .int .u8 241, .int .u8 241, .int .u8 241, .int .u8 241, .int .u8 241, .int .u8 241, .int .u8 241, .int .u8 241, .int .u8 241, .int .u8 241, .int .u8 241, .int .u8 241, .int .u8 241, .int .u8 241, .int .u8 241, .int .u8 241, .int .u8 2, .int .u8 2, .int .u8 2, .int .u8 2, .int .u8 2, .int .u8 2, .int .u8 2, .int .u8 2, .int .u8 2, .int .u8 2, .int .u8 2, .int .u8 2, .int .u8 2, .int .u8 2, .int .u8 2, .int .u8 2, .int .u8 2, .int .u8 2, .int .u8 2, .int .u8 2, .int .u8 2, .int .u8 2, .int .u8 2, .int .u8 2, .int .u8 2, .int .u8 2, .int .u8 2, .int .u8 2, .int .u8 2, .int .u8 2, .int .u8 19, .int .u8 3, .int .u8 3, .int .u8 3, .int .u8 3, .int .u8 3, .int .u8 3, .int .u8 3, .int .u8 3, .int .u8 3, .int .u8 3, .int .u8 3, .int .u8 3, .int .u8 35, .int .u8 3, .int .u8 3, .int .u8 52, .int .u8 4, .int .u8 4, .int .u8 4, .int .u8 68, .int .u8 241, .int .u8 241, .int .u8 241, .int .u8 241, .int .u8 241, .int .u8 241, .int .u8 241, .int .u8 241, .int .u8 241, .int .u8 241, .int .u8 241]
def tabKeys : Array Value := #[.string ⟨#[77, 65, 84, 67, 72]⟩, .string ⟨#[87, 72, 69, 82, 69]⟩, .string ⟨#[82, 69, 84, 85, 82, 78]⟩, .string ⟨#[68, 73, 83, 84, 73, 78, 67, 84]⟩, .string ⟨#[79, 82, 68, 69, 82]⟩, .string ⟨#[66, 89]⟩, .string ⟨#[65, 83, 67]⟩, .string ⟨#[68, 69, 83, 67]⟩, .string ⟨#[76, 73, 77, 73, 84]⟩, .string ⟨#[65, 83]⟩, .string ⟨#[65, 78, 68]⟩, .string ⟨#[79, 82]⟩, .string ⟨#[78, 79, 84]⟩, .string ⟨#[73, 83]⟩, .string ⟨#[78, 85, 76, 76]⟩, .string ⟨#[84, 82, 85, 69]⟩, .string ⟨#[70, 65, 76, 83, 69]⟩, .string ⟨#[83, 72, 79, 82, 84, 69, 83, 84]⟩, .string ⟨#[76, 69, 78, 71, 84, 72]⟩, .string ⟨#[67, 79, 85, 78, 84]⟩, .string ⟨#[83, 85, 77]⟩, .string ⟨#[77, 73, 78]⟩, .string ⟨#[77, 65, 88]⟩]
/-- A world for the witness: the settled one, the tables as they are laid. -/
noncomputable def laidWorld (os : Os) : World :=
  { World.holding Tryd.prog os ⟨#[], #[], []⟩ with heap := (((World.holding Tryd.prog os ⟨#[], #[], []⟩).heap.modify 2 (layAs tabAcc)).modify 1 (layAs tabFst)).modify 0 (layAs tabKeys) }
theorem pow10_type : (Tryd.prog.globals[3]?).map (·.type) = some 175 := by kernel_rfl
theorem cells_arr : Tryd.prog.cellsOf 175 = 20 := by kernel_rfl
theorem cells_u64 : Tryd.prog.cellsOf 152 = 1 := by kernel_rfl
theorem pow10_laid : (Rows.laid_internal_strconv_uint64pow10 : DataW Unit) = Lib.tabData .u64 Lib.pow10Tab := by kernel_rfl
theorem tabs_of {l : List (String × DataW Unit)} {W : World} (h : laidMetH Tryd.prog l W)
    (hf : l.filter (fun x => x.1 == "internal/strconv.uint64pow10") = [("internal/strconv.uint64pow10", Rows.laid_internal_strconv_uint64pow10)]) : Tabs W := by
  have h1 := h.filter (fun x => x.1 == "internal/strconv.uint64pow10")
  rw [hf, MakeChecks.laidMetH_plain _ _ _ (by kernel_rfl), pow10_laid] at h1
  exact Lib.tabIs_of_head (rest := []) pow10_named pow10_type Tryd.underlying175 Tryd.underlying152 cells_u64 cells_arr h1
def tab32 : Array Value := #[.int .u8 0, .int .u8 1, .int .u8 28, .int .u8 2, .int .u8 29, .int .u8 14, .int .u8 24, .int .u8 3, .int .u8 30, .int .u8 22, .int .u8 20, .int .u8 15, .int .u8 25, .int .u8 17, .int .u8 4, .int .u8 8, .int .u8 31, .int .u8 27, .int .u8 13, .int .u8 23, .int .u8 21, .int .u8 19, .int .u8 16, .int .u8 7, .int .u8 26, .int .u8 12, .int .u8 18, .int .u8 6, .int .u8 11, .int .u8 5, .int .u8 10, .int .u8 9]
def tab64 : Array Value := #[.int .u8 0, .int .u8 1, .int .u8 56, .int .u8 2, .int .u8 57, .int .u8 49, .int .u8 28, .int .u8 3, .int .u8 61, .int .u8 58, .int .u8 42, .int .u8 50, .int .u8 38, .int .u8 29, .int .u8 17, .int .u8 4, .int .u8 62, .int .u8 47, .int .u8 59, .int .u8 36, .int .u8 45, .int .u8 43, .int .u8 51, .int .u8 22, .int .u8 53, .int .u8 39, .int .u8 33, .int .u8 30, .int .u8 24, .int .u8 18, .int .u8 12, .int .u8 5, .int .u8 63, .int .u8 55, .int .u8 48, .int .u8 27, .int .u8 60, .int .u8 41, .int .u8 37, .int .u8 16, .int .u8 46, .int .u8 35, .int .u8 44, .int .u8 21, .int .u8 52, .int .u8 32, .int .u8 23, .int .u8 11, .int .u8 54, .int .u8 26, .int .u8 40, .int .u8 15, .int .u8 34, .int .u8 20, .int .u8 31, .int .u8 10, .int .u8 25, .int .u8 14, .int .u8 19, .int .u8 9, .int .u8 13, .int .u8 8, .int .u8 7, .int .u8 6]
def tab10 : Array Value := #[.int .u64 1, .int .u64 10, .int .u64 100, .int .u64 1000, .int .u64 10000, .int .u64 100000, .int .u64 1000000, .int .u64 10000000, .int .u64 100000000, .int .u64 1000000000, .int .u64 10000000000, .int .u64 100000000000, .int .u64 1000000000000, .int .u64 10000000000000, .int .u64 100000000000000, .int .u64 1000000000000000, .int .u64 10000000000000000, .int .u64 100000000000000000, .int .u64 1000000000000000000, .int .u64 10000000000000000000]
/-- A world for the witness: the settled one, the six tables as they are laid. -/
noncomputable def laidWorldN (os : Os) : World :=
  { laidWorld os with heap := (((laidWorld os).heap.modify 4 (layAs tab32)).modify 5 (layAs tab64)).modify 3 (layAs tab10) }
set_option maxRecDepth 100000 in
/-- An expression among the arguments, opened. -/
theorem openXA {H : Type} {enc : TypeId × Value → H} {W : World} {b0 : Nat} {v : Value} {d : DataW H} {p : List MemPlace} (hv : Value.okWide Tryd.prog W .any b0 29 v) (h : DataW.Trod enc Tryd.prog W 0 (fun _ => true) true 29 v d p) (hw : (DataW.weights Tryd.prog 29 d).all (· ≤ reachBytes) = true) :
    ∃ x : XD, v = .agg #[.int .i64 x.op, .slice x.A x.ks.length x.c, .string x.nm, .string x.pr, .int .i64 x.v.k, .bool x.v.b, .int .i64 x.v.n, .string x.v.s, .slice x.v.A x.v.p.length x.v.c] ∧ ReadsXD W x := by
  obtain ⟨cs, rfl, hsz⟩ := okWide_struct Tryd.underlying29 hv
  have hC : Tryd.prog.cellsOf 29 = 9 := by kernel_rfl
  obtain ⟨l⟩ := cs
  obtain ⟨fuel, hf⟩ := h
  have hl : l.length = 9 := by simpa using hsz.trans hC
  obtain ⟨x, hx, hr⟩ := openX fuel (cs := l) (x := (d, p)) hl (by simpa [Value.cells] using hf) hw
  refine ⟨x, ?_, hr⟩
  rw [hx]
  rfl
end Go.Proofs.YtkchpgjjkckfbaaDoor
