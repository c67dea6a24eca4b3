/-
  DERIVED. GIVEN WITH THE SEED: THE CARDS: each row of YtdgcmihnbkamgaaDoorRows.lean that lists a variable, with what it lists TIED to the program's text (the seventh form; the later family's looks); each row that meets fmt, with fmt's text TOLD by the authors' own Lean function (tested against real Go, not proved from fmt's source: count such statements apart). THE CARD IS WHAT COUNTS. Prove the row's statement (the work); the ties are given (YtdgcmihnbkamgaaDoorTie.lean); close each card by the builder's one call (the guide's Derived/Test/ToyasCard.lean, 'card_holds'). Laid BY PROGRAM, IN A SANDBOX (cutbox-door.mjs). By AI agents, Wed Nov 11 2026. No macro, syntax, notation, axiom, sorry.
-/
import Derived.Test.YtdgcmihnbkamgaaDoorRows
import GoSem.ClaimSeven
namespace Go.Proofs.YtdgcmihnbkamgaaDoor
namespace Rows

/-- THE TIED CARD OF 'barrowlaw29.ShopWords'. -/
def shopWordsCard : Claim7 := { stood := { row := shopWordsRow, standIns := [], harness := (true, "91e3a0b9f2c8869f6cc09e01c05cd666daa37ac1bf948875e22dc600a165f8eb"), looks := false }, kinds := [], alts := [], laidByText := true, laidKinds := [.data, .data, .data], laidTests := true, laidLooks := .later }
def ShopWordsCardSaid : Prop := Claim7.holds Tryd.pinned (.plain (OpenSpec.ofChange shopWordsSpec)) shopWordsCard

/-- THE TIED CARD OF 'barrowlaw29.ShopTells'. -/
def shopTellsCard : Claim7 := { stood := { row := shopTellsRow, standIns := [], harness := (true, "91e3a0b9f2c8869f6cc09e01c05cd666daa37ac1bf948875e22dc600a165f8eb"), looks := false }, kinds := [], alts := [], laidByText := true, laidKinds := [.data, .data, .data], laidTests := true, laidLooks := .later }
def ShopTellsCardSaid : Prop := Claim7.holds Tryd.pinned (.plain (OpenSpec.ofChange shopTellsSpec)) shopTellsCard

/-- THE SECOND FORM's CARD OF 'barrowlaw29.ShopWords'. -/
def shopWordsUptoCard : Claim7 := { stood := { row := shopWordsUptoRow, standIns := [], harness := (true, "91e3a0b9f2c8869f6cc09e01c05cd666daa37ac1bf948875e22dc600a165f8eb"), looks := false }, kinds := [], alts := [], laidByText := true, laidKinds := [.data, .data, .data], laidTests := true, laidLooks := .later }
def ShopWordsUptoCardSaid : Prop := Claim7.holds Tryd.pinned (.plain (OpenSpec.upto shopWordsSpec)) shopWordsUptoCard

/-- THE SECOND FORM's CARD OF 'barrowlaw29.ShopTells'. -/
def shopTellsUptoCard : Claim7 := { stood := { row := shopTellsUptoRow, standIns := [], harness := (true, "91e3a0b9f2c8869f6cc09e01c05cd666daa37ac1bf948875e22dc600a165f8eb"), looks := false }, kinds := [], alts := [], laidByText := true, laidKinds := [.data, .data, .data], laidTests := true, laidLooks := .later }
def ShopTellsUptoCardSaid : Prop := Claim7.holds Tryd.pinned (.plain (OpenSpec.upto shopTellsSpec)) shopTellsUptoCard
end Rows
end Go.Proofs.YtdgcmihnbkamgaaDoor
