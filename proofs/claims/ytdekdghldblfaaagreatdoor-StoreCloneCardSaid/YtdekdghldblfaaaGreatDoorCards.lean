/-
  DERIVED. GIVEN WITH THE SEED: THE CARDS: each row of YtdekdghldblfaaaGreatDoorRows.lean that lists a variable, with what it lists TIED to the program's text (the seventh form; the later family's looks); each row that meets fmt, with fmt's text TOLD by the authors' own Lean function (tested against real Go, not proved from fmt's source: count such statements apart). THE CARD IS WHAT COUNTS. Prove the row's statement (the work); the ties are given (YtdekdghldblfaaaGreatDoorTie.lean); close each card by the builder's one call (the guide's Derived/Test/ToyasCard.lean, 'card_holds'). Laid BY PROGRAM, IN A SANDBOX (cutbox-door.mjs). By AI agents, Wed Nov 11 2026. No macro, syntax, notation, axiom, sorry.
-/
import Derived.Test.YtdekdghldblfaaaGreatDoorRows
import GoSem.ClaimSeven
namespace Go.Proofs.YtdekdghldblfaaaGreatDoor
namespace Rows

/-- THE TIED CARD OF 'sizarlaw18.StoreHides'. -/
def storeHidesCard : Claim7 := { stood := { row := storeHidesRow, standIns := [], harness := (true, "f21a297ef79b0f9114a17d736eb6034e02e7ae93ca233b9201fc8e7322dbb77c"), looks := true }, kinds := [], alts := [], laidByText := true, laidKinds := [.data, .data, .data, .data, .sentinel, .sentinel, .pinned], laidTests := true, laidLooks := .later }
def StoreHidesCardSaid : Prop := Claim7.holds Tryz.pinned (.plain (OpenSpec.ofChange storeHidesSpec)) storeHidesCard

/-- THE TIED CARD OF 'sizarlaw18.StoreSees'. -/
def storeSeesCard : Claim7 := { stood := { row := storeSeesRow, standIns := [], harness := (true, "f21a297ef79b0f9114a17d736eb6034e02e7ae93ca233b9201fc8e7322dbb77c"), looks := true }, kinds := [], alts := [], laidByText := true, laidKinds := [.data, .data, .data, .data, .sentinel, .sentinel, .pinned], laidTests := true, laidLooks := .later }
def StoreSeesCardSaid : Prop := Claim7.holds Tryz.pinned (.plain (OpenSpec.ofChange storeSeesSpec)) storeSeesCard

/-- THE TIED CARD OF 'sizarlaw18.StoreQuota'. -/
def storeQuotaCard : Claim7 := { stood := { row := storeQuotaRow, standIns := [], harness := (true, "f21a297ef79b0f9114a17d736eb6034e02e7ae93ca233b9201fc8e7322dbb77c"), looks := true }, kinds := [], alts := [], laidByText := true, laidKinds := [.data, .data, .data, .data, .sentinel, .sentinel, .pinned], laidTests := true, laidLooks := .later }
def StoreQuotaCardSaid : Prop := Claim7.holds Tryz.pinned (.plain (OpenSpec.ofChange storeQuotaSpec)) storeQuotaCard

/-- THE TIED CARD OF 'sizarlaw18.StoreClone'. -/
def storeCloneCard : Claim7 := { stood := { row := storeCloneRow, standIns := [], harness := (true, "f21a297ef79b0f9114a17d736eb6034e02e7ae93ca233b9201fc8e7322dbb77c"), looks := true }, kinds := [], alts := [], laidByText := true, laidKinds := [.data, .data, .data, .data, .sentinel, .sentinel, .pinned], laidTests := true, laidLooks := .later }
def StoreCloneCardSaid : Prop := Claim7.holds Tryz.pinned (.plain (OpenSpec.ofChange storeCloneSpec)) storeCloneCard

/-- THE TIED CARD OF 'sizarlaw18.StoreKnown'. -/
def storeKnownCard : Claim7 := { stood := { row := storeKnownRow, standIns := [], harness := (true, "f21a297ef79b0f9114a17d736eb6034e02e7ae93ca233b9201fc8e7322dbb77c"), looks := true }, kinds := [], alts := [], laidByText := true, laidKinds := [.data, .data, .data, .data, .sentinel, .sentinel, .pinned], laidTests := true, laidLooks := .later }
def StoreKnownCardSaid : Prop := Claim7.holds Tryz.pinned (.plain (OpenSpec.ofChange storeKnownSpec)) storeKnownCard

/-- THE TIED CARD OF 'sizarlaw18.StoreFits'. -/
def storeFitsCard : Claim7 := { stood := { row := storeFitsRow, standIns := [], harness := (true, "f21a297ef79b0f9114a17d736eb6034e02e7ae93ca233b9201fc8e7322dbb77c"), looks := true }, kinds := [], alts := [], laidByText := true, laidKinds := [.data, .data, .data, .data, .sentinel, .sentinel, .pinned], laidTests := true, laidLooks := .later }
def StoreFitsCardSaid : Prop := Claim7.holds Tryz.pinned (.plain (OpenSpec.ofChange storeFitsSpec)) storeFitsCard

/-- THE SECOND FORM's CARD OF 'sizarlaw18.StoreHides'. -/
def storeHidesUptoCard : Claim7 := { stood := { row := storeHidesUptoRow, standIns := [], harness := (true, "f21a297ef79b0f9114a17d736eb6034e02e7ae93ca233b9201fc8e7322dbb77c"), looks := true }, kinds := [], alts := [], laidByText := true, laidKinds := [.data, .data, .data, .data, .sentinel, .sentinel, .pinned], laidTests := true, laidLooks := .later }
def StoreHidesUptoCardSaid : Prop := Claim7.holds Tryz.pinned (.plain (OpenSpec.upto storeHidesSpec)) storeHidesUptoCard

/-- THE SECOND FORM's CARD OF 'sizarlaw18.StoreSees'. -/
def storeSeesUptoCard : Claim7 := { stood := { row := storeSeesUptoRow, standIns := [], harness := (true, "f21a297ef79b0f9114a17d736eb6034e02e7ae93ca233b9201fc8e7322dbb77c"), looks := true }, kinds := [], alts := [], laidByText := true, laidKinds := [.data, .data, .data, .data, .sentinel, .sentinel, .pinned], laidTests := true, laidLooks := .later }
def StoreSeesUptoCardSaid : Prop := Claim7.holds Tryz.pinned (.plain (OpenSpec.upto storeSeesSpec)) storeSeesUptoCard

/-- THE SECOND FORM's CARD OF 'sizarlaw18.StoreQuota'. -/
def storeQuotaUptoCard : Claim7 := { stood := { row := storeQuotaUptoRow, standIns := [], harness := (true, "f21a297ef79b0f9114a17d736eb6034e02e7ae93ca233b9201fc8e7322dbb77c"), looks := true }, kinds := [], alts := [], laidByText := true, laidKinds := [.data, .data, .data, .data, .sentinel, .sentinel, .pinned], laidTests := true, laidLooks := .later }
def StoreQuotaUptoCardSaid : Prop := Claim7.holds Tryz.pinned (.plain (OpenSpec.upto storeQuotaSpec)) storeQuotaUptoCard

/-- THE SECOND FORM's CARD OF 'sizarlaw18.StoreClone'. -/
def storeCloneUptoCard : Claim7 := { stood := { row := storeCloneUptoRow, standIns := [], harness := (true, "f21a297ef79b0f9114a17d736eb6034e02e7ae93ca233b9201fc8e7322dbb77c"), looks := true }, kinds := [], alts := [], laidByText := true, laidKinds := [.data, .data, .data, .data, .sentinel, .sentinel, .pinned], laidTests := true, laidLooks := .later }
def StoreCloneUptoCardSaid : Prop := Claim7.holds Tryz.pinned (.plain (OpenSpec.upto storeCloneSpec)) storeCloneUptoCard

/-- THE SECOND FORM's CARD OF 'sizarlaw18.StoreKnown'. -/
def storeKnownUptoCard : Claim7 := { stood := { row := storeKnownUptoRow, standIns := [], harness := (true, "f21a297ef79b0f9114a17d736eb6034e02e7ae93ca233b9201fc8e7322dbb77c"), looks := true }, kinds := [], alts := [], laidByText := true, laidKinds := [.data, .data, .data, .data, .sentinel, .sentinel, .pinned], laidTests := true, laidLooks := .later }
def StoreKnownUptoCardSaid : Prop := Claim7.holds Tryz.pinned (.plain (OpenSpec.upto storeKnownSpec)) storeKnownUptoCard

/-- THE SECOND FORM's CARD OF 'sizarlaw18.StoreFits'. -/
def storeFitsUptoCard : Claim7 := { stood := { row := storeFitsUptoRow, standIns := [], harness := (true, "f21a297ef79b0f9114a17d736eb6034e02e7ae93ca233b9201fc8e7322dbb77c"), looks := true }, kinds := [], alts := [], laidByText := true, laidKinds := [.data, .data, .data, .data, .sentinel, .sentinel, .pinned], laidTests := true, laidLooks := .later }
def StoreFitsUptoCardSaid : Prop := Claim7.holds Tryz.pinned (.plain (OpenSpec.upto storeFitsSpec)) storeFitsUptoCard
end Rows
end Go.Proofs.YtdekdghldblfaaaGreatDoor
