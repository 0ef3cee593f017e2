/-
  DERIVED. GIVEN WITH THE SEED: THE CARDS: each row of YthafbdkjpgeopaaDoorRows.lean that lists a variable, with what it lists TIED to the program's text (the seventh form; the later family's looks); each row that meets fmt, with fmt's text TOLD by the authors' own Lean function (tested against real Go, not proved from fmt's source: count such statements apart). THE CARD IS WHAT COUNTS. Prove the row's statement (the work); the ties are given (YthafbdkjpgeopaaDoorTie.lean); close each card by the builder's one call (the guide's Derived/Test/ToyasCard.lean, 'card_holds'). Laid BY PROGRAM, IN A SANDBOX (cutbox-door.mjs). By AI agents, Wed Nov 11 2026. No macro, syntax, notation, axiom, sorry.
-/
import Derived.Test.YthafbdkjpgeopaaDoorRows
import GoSem.ClaimSeven
namespace Go.Proofs.YthafbdkjpgeopaaDoor
namespace Rows

/-- THE TIED CARD OF 'portolanlaw02.ValueLine'. -/
def valueLineCard : Claim7 := { stood := { row := valueLineRow, standIns := [], harness := (true, "2d0ec1f03727635ab44f0294580e0f4ee6f410bc0cd5ac3f338d7418114d1a9e"), looks := false }, kinds := [], alts := [], laidByText := true, laidKinds := [.data, .data, .data], laidTests := true, laidLooks := .later }
def ValueLineCardSaid : Prop := Claim7.holds Tryd.pinned (.plain (OpenSpec.ofChange valueLineSpec)) valueLineCard

/-- THE TIED CARD OF 'portolanlaw02.ValueNots'. -/
def valueNotsCard : Claim7 := { stood := { row := valueNotsRow, standIns := [], harness := (true, "2d0ec1f03727635ab44f0294580e0f4ee6f410bc0cd5ac3f338d7418114d1a9e"), looks := false }, kinds := [], alts := [], laidByText := true, laidKinds := [.data, .data, .data], laidTests := true, laidLooks := .later }
def ValueNotsCardSaid : Prop := Claim7.holds Tryd.pinned (.plain (OpenSpec.ofChange valueNotsSpec)) valueNotsCard

/-- THE TIED CARD OF 'portolanlaw02.ValueEquals'. -/
def valueEqualsCard : Claim7 := { stood := { row := valueEqualsRow, standIns := [], harness := (true, "2d0ec1f03727635ab44f0294580e0f4ee6f410bc0cd5ac3f338d7418114d1a9e"), looks := false }, kinds := [], alts := [], laidByText := true, laidKinds := [.data, .data, .data], laidTests := true, laidLooks := .later }
def ValueEqualsCardSaid : Prop := Claim7.holds Tryd.pinned (.plain (OpenSpec.ofChange valueEqualsSpec)) valueEqualsCard

/-- THE TIED CARD OF 'portolanlaw02.ValueAnds'. -/
def valueAndsCard : Claim7 := { stood := { row := valueAndsRow, standIns := [], harness := (true, "2d0ec1f03727635ab44f0294580e0f4ee6f410bc0cd5ac3f338d7418114d1a9e"), looks := false }, kinds := [], alts := [], laidByText := true, laidKinds := [.data, .data, .data], laidTests := true, laidLooks := .later }
def ValueAndsCardSaid : Prop := Claim7.holds Tryd.pinned (.plain (OpenSpec.ofChange valueAndsSpec)) valueAndsCard

/-- THE TIED CARD OF 'portolanlaw02.ValueOrs'. -/
def valueOrsCard : Claim7 := { stood := { row := valueOrsRow, standIns := [], harness := (true, "2d0ec1f03727635ab44f0294580e0f4ee6f410bc0cd5ac3f338d7418114d1a9e"), looks := false }, kinds := [], alts := [], laidByText := true, laidKinds := [.data, .data, .data], laidTests := true, laidLooks := .later }
def ValueOrsCardSaid : Prop := Claim7.holds Tryd.pinned (.plain (OpenSpec.ofChange valueOrsSpec)) valueOrsCard

/-- THE TIED CARD OF 'portolanlaw02.ValueOrders'. -/
def valueOrdersCard : Claim7 := { stood := { row := valueOrdersRow, standIns := [], harness := (true, "2d0ec1f03727635ab44f0294580e0f4ee6f410bc0cd5ac3f338d7418114d1a9e"), looks := false }, kinds := [], alts := [], laidByText := true, laidKinds := [.data, .data, .data], laidTests := true, laidLooks := .later }
def ValueOrdersCardSaid : Prop := Claim7.holds Tryd.pinned (.plain (OpenSpec.ofChange valueOrdersSpec)) valueOrdersCard

/-- THE TIED CARD OF 'portolanlaw02.ValueLesses'. -/
def valueLessesCard : Claim7 := { stood := { row := valueLessesRow, standIns := [], harness := (true, "2d0ec1f03727635ab44f0294580e0f4ee6f410bc0cd5ac3f338d7418114d1a9e"), looks := false }, kinds := [], alts := [], laidByText := true, laidKinds := [.data, .data, .data], laidTests := true, laidLooks := .later }
def ValueLessesCardSaid : Prop := Claim7.holds Tryd.pinned (.plain (OpenSpec.ofChange valueLessesSpec)) valueLessesCard

/-- THE TIED CARD OF 'portolanlaw02.ValueTruths'. -/
def valueTruthsCard : Claim7 := { stood := { row := valueTruthsRow, standIns := [], harness := (true, "2d0ec1f03727635ab44f0294580e0f4ee6f410bc0cd5ac3f338d7418114d1a9e"), looks := false }, kinds := [], alts := [], laidByText := true, laidKinds := [.data, .data, .data], laidTests := true, laidLooks := .later }
def ValueTruthsCardSaid : Prop := Claim7.holds Tryd.pinned (.plain (OpenSpec.ofChange valueTruthsSpec)) valueTruthsCard

/-- THE TIED CARD OF 'portolanlaw02.ValueLogic'. -/
def valueLogicCard : Claim7 := { stood := { row := valueLogicRow, standIns := [], harness := (true, "2d0ec1f03727635ab44f0294580e0f4ee6f410bc0cd5ac3f338d7418114d1a9e"), looks := false }, kinds := [], alts := [], laidByText := true, laidKinds := [.data, .data, .data], laidTests := true, laidLooks := .later }
def ValueLogicCardSaid : Prop := Claim7.holds Tryd.pinned (.plain (OpenSpec.ofChange valueLogicSpec)) valueLogicCard

/-- THE TIED CARD OF 'portolanlaw02.ValueBack'. -/
def valueBackCard : Claim7 := { stood := { row := valueBackRow, standIns := [], harness := (true, "2d0ec1f03727635ab44f0294580e0f4ee6f410bc0cd5ac3f338d7418114d1a9e"), looks := false }, kinds := [], alts := [], laidByText := true, laidKinds := [.data, .data, .data], laidTests := true, laidLooks := .later }
def ValueBackCardSaid : Prop := Claim7.holds Tryd.pinned (.plain (OpenSpec.ofChange valueBackSpec)) valueBackCard

/-- THE TIED CARD OF 'portolanlaw02.ValueTells'. -/
def valueTellsCard : Claim7 := { stood := { row := valueTellsRow, standIns := [], harness := (true, "2d0ec1f03727635ab44f0294580e0f4ee6f410bc0cd5ac3f338d7418114d1a9e"), looks := false }, kinds := [], alts := [], laidByText := true, laidKinds := [.data, .data, .data, .data, .pinned], laidTests := true, laidLooks := .later }
def ValueTellsCardSaid : Prop := Claim7.holds Tryd.pinned (.plain (OpenSpec.ofChange valueTellsSpec)) valueTellsCard

/-- THE TIED CARD OF 'portolanlaw02.ValueRights'. -/
def valueRightsCard : Claim7 := { stood := { row := valueRightsRow, standIns := [], harness := (true, "2d0ec1f03727635ab44f0294580e0f4ee6f410bc0cd5ac3f338d7418114d1a9e"), looks := false }, kinds := [], alts := [], laidByText := true, laidKinds := [.data, .data, .data, .data, .pinned], laidTests := true, laidLooks := .later }
def ValueRightsCardSaid : Prop := Claim7.holds Tryd.pinned (.plain (OpenSpec.ofChange valueRightsSpec)) valueRightsCard

/-- THE TIED CARD OF 'portolanlaw02.ValueShows'. -/
def valueShowsCard : Claim7 := { stood := { row := valueShowsRow, standIns := [], harness := (true, "2d0ec1f03727635ab44f0294580e0f4ee6f410bc0cd5ac3f338d7418114d1a9e"), looks := false }, kinds := [], alts := [], laidByText := true, laidKinds := [.data, .data, .data, .data, .pinned], laidTests := true, laidLooks := .later }
def ValueShowsCardSaid : Prop := Claim7.holds Tryd.pinned (.plain (OpenSpec.ofChange valueShowsSpec)) valueShowsCard

/-- THE TIED CARD OF 'portolanlaw02.ValueEncodes'. -/
def valueEncodesCard : Claim7 := { stood := { row := valueEncodesRow, standIns := [], harness := (true, "2d0ec1f03727635ab44f0294580e0f4ee6f410bc0cd5ac3f338d7418114d1a9e"), looks := false }, kinds := [], alts := [], laidByText := true, laidKinds := [.data, .data, .data, .data, .pinned], laidTests := true, laidLooks := .later }
def ValueEncodesCardSaid : Prop := Claim7.holds Tryd.pinned (.plain (OpenSpec.ofChange valueEncodesSpec)) valueEncodesCard

/-- THE TIED CARD OF 'portolanlaw02.ValueHashes'. -/
def valueHashesCard : Claim7 := { stood := { row := valueHashesRow, standIns := [], harness := (true, "2d0ec1f03727635ab44f0294580e0f4ee6f410bc0cd5ac3f338d7418114d1a9e"), looks := false }, kinds := [], alts := [], laidByText := true, laidKinds := [.data, .data, .data, .data, .pinned], laidTests := true, laidLooks := .later }
def ValueHashesCardSaid : Prop := Claim7.holds Tryd.pinned (.plain (OpenSpec.ofChange valueHashesSpec)) valueHashesCard

/-- THE TIED CARD OF 'portolanlaw02.ValueReads'. -/
def valueReadsCard : Claim7 := { stood := { row := valueReadsRow, standIns := [], harness := (true, "2d0ec1f03727635ab44f0294580e0f4ee6f410bc0cd5ac3f338d7418114d1a9e"), looks := false }, kinds := [], alts := [], laidByText := true, laidKinds := [.data, .data, .data, .data, .pinned], laidTests := true, laidLooks := .later }
def ValueReadsCardSaid : Prop := Claim7.holds Tryd.pinned (.plain (OpenSpec.ofChange valueReadsSpec)) valueReadsCard

/-- THE SECOND FORM's CARD OF 'portolanlaw02.ValueLine'. -/
def valueLineUptoCard : Claim7 := { stood := { row := valueLineUptoRow, standIns := [], harness := (true, "2d0ec1f03727635ab44f0294580e0f4ee6f410bc0cd5ac3f338d7418114d1a9e"), looks := false }, kinds := [], alts := [], laidByText := true, laidKinds := [.data, .data, .data], laidTests := true, laidLooks := .later }
def ValueLineUptoCardSaid : Prop := Claim7.holds Tryd.pinned (.plain (OpenSpec.upto valueLineSpec)) valueLineUptoCard

/-- THE SECOND FORM's CARD OF 'portolanlaw02.ValueNots'. -/
def valueNotsUptoCard : Claim7 := { stood := { row := valueNotsUptoRow, standIns := [], harness := (true, "2d0ec1f03727635ab44f0294580e0f4ee6f410bc0cd5ac3f338d7418114d1a9e"), looks := false }, kinds := [], alts := [], laidByText := true, laidKinds := [.data, .data, .data], laidTests := true, laidLooks := .later }
def ValueNotsUptoCardSaid : Prop := Claim7.holds Tryd.pinned (.plain (OpenSpec.upto valueNotsSpec)) valueNotsUptoCard

/-- THE SECOND FORM's CARD OF 'portolanlaw02.ValueEquals'. -/
def valueEqualsUptoCard : Claim7 := { stood := { row := valueEqualsUptoRow, standIns := [], harness := (true, "2d0ec1f03727635ab44f0294580e0f4ee6f410bc0cd5ac3f338d7418114d1a9e"), looks := false }, kinds := [], alts := [], laidByText := true, laidKinds := [.data, .data, .data], laidTests := true, laidLooks := .later }
def ValueEqualsUptoCardSaid : Prop := Claim7.holds Tryd.pinned (.plain (OpenSpec.upto valueEqualsSpec)) valueEqualsUptoCard

/-- THE SECOND FORM's CARD OF 'portolanlaw02.ValueAnds'. -/
def valueAndsUptoCard : Claim7 := { stood := { row := valueAndsUptoRow, standIns := [], harness := (true, "2d0ec1f03727635ab44f0294580e0f4ee6f410bc0cd5ac3f338d7418114d1a9e"), looks := false }, kinds := [], alts := [], laidByText := true, laidKinds := [.data, .data, .data], laidTests := true, laidLooks := .later }
def ValueAndsUptoCardSaid : Prop := Claim7.holds Tryd.pinned (.plain (OpenSpec.upto valueAndsSpec)) valueAndsUptoCard

/-- THE SECOND FORM's CARD OF 'portolanlaw02.ValueOrs'. -/
def valueOrsUptoCard : Claim7 := { stood := { row := valueOrsUptoRow, standIns := [], harness := (true, "2d0ec1f03727635ab44f0294580e0f4ee6f410bc0cd5ac3f338d7418114d1a9e"), looks := false }, kinds := [], alts := [], laidByText := true, laidKinds := [.data, .data, .data], laidTests := true, laidLooks := .later }
def ValueOrsUptoCardSaid : Prop := Claim7.holds Tryd.pinned (.plain (OpenSpec.upto valueOrsSpec)) valueOrsUptoCard

/-- THE SECOND FORM's CARD OF 'portolanlaw02.ValueOrders'. -/
def valueOrdersUptoCard : Claim7 := { stood := { row := valueOrdersUptoRow, standIns := [], harness := (true, "2d0ec1f03727635ab44f0294580e0f4ee6f410bc0cd5ac3f338d7418114d1a9e"), looks := false }, kinds := [], alts := [], laidByText := true, laidKinds := [.data, .data, .data], laidTests := true, laidLooks := .later }
def ValueOrdersUptoCardSaid : Prop := Claim7.holds Tryd.pinned (.plain (OpenSpec.upto valueOrdersSpec)) valueOrdersUptoCard

/-- THE SECOND FORM's CARD OF 'portolanlaw02.ValueLesses'. -/
def valueLessesUptoCard : Claim7 := { stood := { row := valueLessesUptoRow, standIns := [], harness := (true, "2d0ec1f03727635ab44f0294580e0f4ee6f410bc0cd5ac3f338d7418114d1a9e"), looks := false }, kinds := [], alts := [], laidByText := true, laidKinds := [.data, .data, .data], laidTests := true, laidLooks := .later }
def ValueLessesUptoCardSaid : Prop := Claim7.holds Tryd.pinned (.plain (OpenSpec.upto valueLessesSpec)) valueLessesUptoCard

/-- THE SECOND FORM's CARD OF 'portolanlaw02.ValueTruths'. -/
def valueTruthsUptoCard : Claim7 := { stood := { row := valueTruthsUptoRow, standIns := [], harness := (true, "2d0ec1f03727635ab44f0294580e0f4ee6f410bc0cd5ac3f338d7418114d1a9e"), looks := false }, kinds := [], alts := [], laidByText := true, laidKinds := [.data, .data, .data], laidTests := true, laidLooks := .later }
def ValueTruthsUptoCardSaid : Prop := Claim7.holds Tryd.pinned (.plain (OpenSpec.upto valueTruthsSpec)) valueTruthsUptoCard

/-- THE SECOND FORM's CARD OF 'portolanlaw02.ValueLogic'. -/
def valueLogicUptoCard : Claim7 := { stood := { row := valueLogicUptoRow, standIns := [], harness := (true, "2d0ec1f03727635ab44f0294580e0f4ee6f410bc0cd5ac3f338d7418114d1a9e"), looks := false }, kinds := [], alts := [], laidByText := true, laidKinds := [.data, .data, .data], laidTests := true, laidLooks := .later }
def ValueLogicUptoCardSaid : Prop := Claim7.holds Tryd.pinned (.plain (OpenSpec.upto valueLogicSpec)) valueLogicUptoCard

/-- THE SECOND FORM's CARD OF 'portolanlaw02.ValueBack'. -/
def valueBackUptoCard : Claim7 := { stood := { row := valueBackUptoRow, standIns := [], harness := (true, "2d0ec1f03727635ab44f0294580e0f4ee6f410bc0cd5ac3f338d7418114d1a9e"), looks := false }, kinds := [], alts := [], laidByText := true, laidKinds := [.data, .data, .data], laidTests := true, laidLooks := .later }
def ValueBackUptoCardSaid : Prop := Claim7.holds Tryd.pinned (.plain (OpenSpec.upto valueBackSpec)) valueBackUptoCard

/-- THE SECOND FORM's CARD OF 'portolanlaw02.ValueTells'. -/
def valueTellsUptoCard : Claim7 := { stood := { row := valueTellsUptoRow, standIns := [], harness := (true, "2d0ec1f03727635ab44f0294580e0f4ee6f410bc0cd5ac3f338d7418114d1a9e"), looks := false }, kinds := [], alts := [], laidByText := true, laidKinds := [.data, .data, .data, .data, .pinned], laidTests := true, laidLooks := .later }
def ValueTellsUptoCardSaid : Prop := Claim7.holds Tryd.pinned (.plain (OpenSpec.upto valueTellsSpec)) valueTellsUptoCard

/-- THE SECOND FORM's CARD OF 'portolanlaw02.ValueRights'. -/
def valueRightsUptoCard : Claim7 := { stood := { row := valueRightsUptoRow, standIns := [], harness := (true, "2d0ec1f03727635ab44f0294580e0f4ee6f410bc0cd5ac3f338d7418114d1a9e"), looks := false }, kinds := [], alts := [], laidByText := true, laidKinds := [.data, .data, .data, .data, .pinned], laidTests := true, laidLooks := .later }
def ValueRightsUptoCardSaid : Prop := Claim7.holds Tryd.pinned (.plain (OpenSpec.upto valueRightsSpec)) valueRightsUptoCard

/-- THE SECOND FORM's CARD OF 'portolanlaw02.ValueShows'. -/
def valueShowsUptoCard : Claim7 := { stood := { row := valueShowsUptoRow, standIns := [], harness := (true, "2d0ec1f03727635ab44f0294580e0f4ee6f410bc0cd5ac3f338d7418114d1a9e"), looks := false }, kinds := [], alts := [], laidByText := true, laidKinds := [.data, .data, .data, .data, .pinned], laidTests := true, laidLooks := .later }
def ValueShowsUptoCardSaid : Prop := Claim7.holds Tryd.pinned (.plain (OpenSpec.upto valueShowsSpec)) valueShowsUptoCard

/-- THE SECOND FORM's CARD OF 'portolanlaw02.ValueEncodes'. -/
def valueEncodesUptoCard : Claim7 := { stood := { row := valueEncodesUptoRow, standIns := [], harness := (true, "2d0ec1f03727635ab44f0294580e0f4ee6f410bc0cd5ac3f338d7418114d1a9e"), looks := false }, kinds := [], alts := [], laidByText := true, laidKinds := [.data, .data, .data, .data, .pinned], laidTests := true, laidLooks := .later }
def ValueEncodesUptoCardSaid : Prop := Claim7.holds Tryd.pinned (.plain (OpenSpec.upto valueEncodesSpec)) valueEncodesUptoCard

/-- THE SECOND FORM's CARD OF 'portolanlaw02.ValueHashes'. -/
def valueHashesUptoCard : Claim7 := { stood := { row := valueHashesUptoRow, standIns := [], harness := (true, "2d0ec1f03727635ab44f0294580e0f4ee6f410bc0cd5ac3f338d7418114d1a9e"), looks := false }, kinds := [], alts := [], laidByText := true, laidKinds := [.data, .data, .data, .data, .pinned], laidTests := true, laidLooks := .later }
def ValueHashesUptoCardSaid : Prop := Claim7.holds Tryd.pinned (.plain (OpenSpec.upto valueHashesSpec)) valueHashesUptoCard

/-- THE SECOND FORM's CARD OF 'portolanlaw02.ValueReads'. -/
def valueReadsUptoCard : Claim7 := { stood := { row := valueReadsUptoRow, standIns := [], harness := (true, "2d0ec1f03727635ab44f0294580e0f4ee6f410bc0cd5ac3f338d7418114d1a9e"), looks := false }, kinds := [], alts := [], laidByText := true, laidKinds := [.data, .data, .data, .data, .pinned], laidTests := true, laidLooks := .later }
def ValueReadsUptoCardSaid : Prop := Claim7.holds Tryd.pinned (.plain (OpenSpec.upto valueReadsSpec)) valueReadsUptoCard
end Rows
end Go.Proofs.YthafbdkjpgeopaaDoor
