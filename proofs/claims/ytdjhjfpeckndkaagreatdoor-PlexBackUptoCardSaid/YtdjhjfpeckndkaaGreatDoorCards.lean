/-
  DERIVED. GIVEN WITH THE SEED: THE CARDS: each row of YtdjhjfpeckndkaaGreatDoorRows.lean that lists a variable, with what it lists TIED to the program's text (the seventh form; the later family's looks); each row that meets fmt, with fmt's text TOLD by the authors' own Lean function (tested against real Go, not proved from fmt's source: count such statements apart). THE CARD IS WHAT COUNTS. Prove the row's statement (the work); the ties are given (YtdjhjfpeckndkaaGreatDoorTie.lean); close each card by the builder's one call (the guide's Derived/Test/ToyasCard.lean, 'card_holds'). Laid BY PROGRAM, IN A SANDBOX (cutbox-door.mjs). By AI agents, Wed Nov 11 2026. No macro, syntax, notation, axiom, sorry.
-/
import Derived.Test.YtdjhjfpeckndkaaGreatDoorRows
import GoSem.ClaimSeven
namespace Go.Proofs.YtdjhjfpeckndkaaGreatDoor
namespace Rows

/-- THE TIED CARD OF 'mezzotintlaw19.PlexPlaces'. -/
def plexPlacesCard : Claim7 := { stood := { row := plexPlacesRow, standIns := [], harness := (true, "f6478481ea5d092a7d2a1ab68e119a675c374208213964fdd8d1c0ff45d57000"), looks := true }, kinds := [], alts := [], laidByText := true, laidKinds := [.data, .pinned], laidTests := true, laidLooks := .later }
def PlexPlacesCardSaid : Prop := Claim7.holds Tryz.pinned (.plain (OpenSpec.ofChange plexPlacesSpec)) plexPlacesCard

/-- THE TIED CARD OF 'mezzotintlaw19.PlexBack'. -/
def plexBackCard : Claim7 := { stood := { row := plexBackRow, standIns := [], harness := (true, "f6478481ea5d092a7d2a1ab68e119a675c374208213964fdd8d1c0ff45d57000"), looks := true }, kinds := [], alts := [], laidByText := true, laidKinds := [.data, .pinned], laidTests := true, laidLooks := .later }
def PlexBackCardSaid : Prop := Claim7.holds Tryz.pinned (.plain (OpenSpec.ofChange plexBackSpec)) plexBackCard

/-- THE TIED CARD OF 'mezzotintlaw19.PlexCuts'. -/
def plexCutsCard : Claim7 := { stood := { row := plexCutsRow, standIns := [], harness := (true, "f6478481ea5d092a7d2a1ab68e119a675c374208213964fdd8d1c0ff45d57000"), looks := true }, kinds := [], alts := [], laidByText := true, laidKinds := [.data, .pinned], laidTests := true, laidLooks := .later }
def PlexCutsCardSaid : Prop := Claim7.holds Tryz.pinned (.plain (OpenSpec.ofChange plexCutsSpec)) plexCutsCard

/-- THE TIED CARD OF 'mezzotintlaw23.PreadBack'. -/
def preadBackCard : Claim7 := { stood := { row := preadBackRow, standIns := [], harness := (true, "f6478481ea5d092a7d2a1ab68e119a675c374208213964fdd8d1c0ff45d57000"), looks := true }, kinds := [], alts := [], laidByText := true, laidKinds := [.data, .pinned], laidTests := true, laidLooks := .later }
def PreadBackCardSaid : Prop := Claim7.holds Tryz.pinned (.plain (OpenSpec.ofChange preadBackSpec)) preadBackCard

/-- THE TIED CARD OF 'mezzotintlaw23.PreadChains'. -/
def preadChainsCard : Claim7 := { stood := { row := preadChainsRow, standIns := [], harness := (true, "f6478481ea5d092a7d2a1ab68e119a675c374208213964fdd8d1c0ff45d57000"), looks := true }, kinds := [], alts := [], laidByText := true, laidKinds := [.data, .pinned], laidTests := true, laidLooks := .later }
def PreadChainsCardSaid : Prop := Claim7.holds Tryz.pinned (.plain (OpenSpec.ofChange preadChainsSpec)) preadChainsCard

/-- THE TIED CARD OF 'mezzotintlaw23.PreadApart'. -/
def preadApartCard : Claim7 := { stood := { row := preadApartRow, standIns := [], harness := (true, "f6478481ea5d092a7d2a1ab68e119a675c374208213964fdd8d1c0ff45d57000"), looks := true }, kinds := [], alts := [], laidByText := true, laidKinds := [.data, .pinned], laidTests := true, laidLooks := .later }
def PreadApartCardSaid : Prop := Claim7.holds Tryz.pinned (.plain (OpenSpec.ofChange preadApartSpec)) preadApartCard

/-- THE TIED CARD OF 'mezzotintlaw21.ViewSound'. -/
def viewSoundCard : Claim7 := { stood := { row := viewSoundRow, standIns := [], harness := (true, "f6478481ea5d092a7d2a1ab68e119a675c374208213964fdd8d1c0ff45d57000"), looks := true }, kinds := [], alts := [], laidByText := true, laidKinds := [.data, .pinned], laidTests := true, laidLooks := .later }
def ViewSoundCardSaid : Prop := Claim7.holds Tryz.pinned (.plain (OpenSpec.ofChange viewSoundSpec)) viewSoundCard

/-- THE TIED CARD OF 'mezzotintlaw21.ViewBack'. -/
def viewBackCard : Claim7 := { stood := { row := viewBackRow, standIns := [], harness := (true, "f6478481ea5d092a7d2a1ab68e119a675c374208213964fdd8d1c0ff45d57000"), looks := true }, kinds := [], alts := [], laidByText := true, laidKinds := [.data, .pinned], laidTests := true, laidLooks := .later }
def ViewBackCardSaid : Prop := Claim7.holds Tryz.pinned (.plain (OpenSpec.ofChange viewBackSpec)) viewBackCard

/-- THE TIED CARD OF 'mezzotintlaw21.ViewMoved'. -/
def viewMovedCard : Claim7 := { stood := { row := viewMovedRow, standIns := [], harness := (true, "f6478481ea5d092a7d2a1ab68e119a675c374208213964fdd8d1c0ff45d57000"), looks := true }, kinds := [], alts := [], laidByText := true, laidKinds := [.data, .pinned], laidTests := true, laidLooks := .later }
def ViewMovedCardSaid : Prop := Claim7.holds Tryz.pinned (.plain (OpenSpec.ofChange viewMovedSpec)) viewMovedCard

/-- THE TIED CARD OF 'mezzotintlaw24.TreeInherits'. -/
def treeInheritsCard : Claim7 := { stood := { row := treeInheritsRow, standIns := [], harness := (true, "f6478481ea5d092a7d2a1ab68e119a675c374208213964fdd8d1c0ff45d57000"), looks := true }, kinds := [], alts := [], laidByText := true, laidKinds := [.data, .data, .pinned], laidTests := true, laidLooks := .later }
def TreeInheritsCardSaid : Prop := Claim7.holds Tryz.pinned (.plain (OpenSpec.ofChange treeInheritsSpec)) treeInheritsCard

/-- THE TIED CARD OF 'mezzotintlaw24.TreeJoined'. -/
def treeJoinedCard : Claim7 := { stood := { row := treeJoinedRow, standIns := [], harness := (true, "f6478481ea5d092a7d2a1ab68e119a675c374208213964fdd8d1c0ff45d57000"), looks := true }, kinds := [], alts := [], laidByText := true, laidKinds := [.data, .data, .pinned], laidTests := true, laidLooks := .later }
def TreeJoinedCardSaid : Prop := Claim7.holds Tryz.pinned (.plain (OpenSpec.ofChange treeJoinedSpec)) treeJoinedCard

/-- THE TIED CARD OF 'mezzotintlaw24.TreeRefuses'. -/
def treeRefusesCard : Claim7 := { stood := { row := treeRefusesRow, standIns := [], harness := (true, "f6478481ea5d092a7d2a1ab68e119a675c374208213964fdd8d1c0ff45d57000"), looks := true }, kinds := [], alts := [], laidByText := true, laidKinds := [.data, .data, .pinned], laidTests := true, laidLooks := .later }
def TreeRefusesCardSaid : Prop := Claim7.holds Tryz.pinned (.plain (OpenSpec.ofChange treeRefusesSpec)) treeRefusesCard

/-- THE SECOND FORM's CARD OF 'mezzotintlaw19.PlexPlaces'. -/
def plexPlacesUptoCard : Claim7 := { stood := { row := plexPlacesUptoRow, standIns := [], harness := (true, "f6478481ea5d092a7d2a1ab68e119a675c374208213964fdd8d1c0ff45d57000"), looks := true }, kinds := [], alts := [], laidByText := true, laidKinds := [.data, .pinned], laidTests := true, laidLooks := .later }
def PlexPlacesUptoCardSaid : Prop := Claim7.holds Tryz.pinned (.plain (OpenSpec.upto plexPlacesSpec)) plexPlacesUptoCard

/-- THE SECOND FORM's CARD OF 'mezzotintlaw19.PlexBack'. -/
def plexBackUptoCard : Claim7 := { stood := { row := plexBackUptoRow, standIns := [], harness := (true, "f6478481ea5d092a7d2a1ab68e119a675c374208213964fdd8d1c0ff45d57000"), looks := true }, kinds := [], alts := [], laidByText := true, laidKinds := [.data, .pinned], laidTests := true, laidLooks := .later }
def PlexBackUptoCardSaid : Prop := Claim7.holds Tryz.pinned (.plain (OpenSpec.upto plexBackSpec)) plexBackUptoCard

/-- THE SECOND FORM's CARD OF 'mezzotintlaw19.PlexCuts'. -/
def plexCutsUptoCard : Claim7 := { stood := { row := plexCutsUptoRow, standIns := [], harness := (true, "f6478481ea5d092a7d2a1ab68e119a675c374208213964fdd8d1c0ff45d57000"), looks := true }, kinds := [], alts := [], laidByText := true, laidKinds := [.data, .pinned], laidTests := true, laidLooks := .later }
def PlexCutsUptoCardSaid : Prop := Claim7.holds Tryz.pinned (.plain (OpenSpec.upto plexCutsSpec)) plexCutsUptoCard

/-- THE SECOND FORM's CARD OF 'mezzotintlaw23.PreadBack'. -/
def preadBackUptoCard : Claim7 := { stood := { row := preadBackUptoRow, standIns := [], harness := (true, "f6478481ea5d092a7d2a1ab68e119a675c374208213964fdd8d1c0ff45d57000"), looks := true }, kinds := [], alts := [], laidByText := true, laidKinds := [.data, .pinned], laidTests := true, laidLooks := .later }
def PreadBackUptoCardSaid : Prop := Claim7.holds Tryz.pinned (.plain (OpenSpec.upto preadBackSpec)) preadBackUptoCard

/-- THE SECOND FORM's CARD OF 'mezzotintlaw23.PreadChains'. -/
def preadChainsUptoCard : Claim7 := { stood := { row := preadChainsUptoRow, standIns := [], harness := (true, "f6478481ea5d092a7d2a1ab68e119a675c374208213964fdd8d1c0ff45d57000"), looks := true }, kinds := [], alts := [], laidByText := true, laidKinds := [.data, .pinned], laidTests := true, laidLooks := .later }
def PreadChainsUptoCardSaid : Prop := Claim7.holds Tryz.pinned (.plain (OpenSpec.upto preadChainsSpec)) preadChainsUptoCard

/-- THE SECOND FORM's CARD OF 'mezzotintlaw23.PreadApart'. -/
def preadApartUptoCard : Claim7 := { stood := { row := preadApartUptoRow, standIns := [], harness := (true, "f6478481ea5d092a7d2a1ab68e119a675c374208213964fdd8d1c0ff45d57000"), looks := true }, kinds := [], alts := [], laidByText := true, laidKinds := [.data, .pinned], laidTests := true, laidLooks := .later }
def PreadApartUptoCardSaid : Prop := Claim7.holds Tryz.pinned (.plain (OpenSpec.upto preadApartSpec)) preadApartUptoCard

/-- THE SECOND FORM's CARD OF 'mezzotintlaw21.ViewSound'. -/
def viewSoundUptoCard : Claim7 := { stood := { row := viewSoundUptoRow, standIns := [], harness := (true, "f6478481ea5d092a7d2a1ab68e119a675c374208213964fdd8d1c0ff45d57000"), looks := true }, kinds := [], alts := [], laidByText := true, laidKinds := [.data, .pinned], laidTests := true, laidLooks := .later }
def ViewSoundUptoCardSaid : Prop := Claim7.holds Tryz.pinned (.plain (OpenSpec.upto viewSoundSpec)) viewSoundUptoCard

/-- THE SECOND FORM's CARD OF 'mezzotintlaw21.ViewBack'. -/
def viewBackUptoCard : Claim7 := { stood := { row := viewBackUptoRow, standIns := [], harness := (true, "f6478481ea5d092a7d2a1ab68e119a675c374208213964fdd8d1c0ff45d57000"), looks := true }, kinds := [], alts := [], laidByText := true, laidKinds := [.data, .pinned], laidTests := true, laidLooks := .later }
def ViewBackUptoCardSaid : Prop := Claim7.holds Tryz.pinned (.plain (OpenSpec.upto viewBackSpec)) viewBackUptoCard

/-- THE SECOND FORM's CARD OF 'mezzotintlaw21.ViewMoved'. -/
def viewMovedUptoCard : Claim7 := { stood := { row := viewMovedUptoRow, standIns := [], harness := (true, "f6478481ea5d092a7d2a1ab68e119a675c374208213964fdd8d1c0ff45d57000"), looks := true }, kinds := [], alts := [], laidByText := true, laidKinds := [.data, .pinned], laidTests := true, laidLooks := .later }
def ViewMovedUptoCardSaid : Prop := Claim7.holds Tryz.pinned (.plain (OpenSpec.upto viewMovedSpec)) viewMovedUptoCard

/-- THE SECOND FORM's CARD OF 'mezzotintlaw24.TreeInherits'. -/
def treeInheritsUptoCard : Claim7 := { stood := { row := treeInheritsUptoRow, standIns := [], harness := (true, "f6478481ea5d092a7d2a1ab68e119a675c374208213964fdd8d1c0ff45d57000"), looks := true }, kinds := [], alts := [], laidByText := true, laidKinds := [.data, .data, .pinned], laidTests := true, laidLooks := .later }
def TreeInheritsUptoCardSaid : Prop := Claim7.holds Tryz.pinned (.plain (OpenSpec.upto treeInheritsSpec)) treeInheritsUptoCard

/-- THE SECOND FORM's CARD OF 'mezzotintlaw24.TreeJoined'. -/
def treeJoinedUptoCard : Claim7 := { stood := { row := treeJoinedUptoRow, standIns := [], harness := (true, "f6478481ea5d092a7d2a1ab68e119a675c374208213964fdd8d1c0ff45d57000"), looks := true }, kinds := [], alts := [], laidByText := true, laidKinds := [.data, .data, .pinned], laidTests := true, laidLooks := .later }
def TreeJoinedUptoCardSaid : Prop := Claim7.holds Tryz.pinned (.plain (OpenSpec.upto treeJoinedSpec)) treeJoinedUptoCard

/-- THE SECOND FORM's CARD OF 'mezzotintlaw24.TreeRefuses'. -/
def treeRefusesUptoCard : Claim7 := { stood := { row := treeRefusesUptoRow, standIns := [], harness := (true, "f6478481ea5d092a7d2a1ab68e119a675c374208213964fdd8d1c0ff45d57000"), looks := true }, kinds := [], alts := [], laidByText := true, laidKinds := [.data, .data, .pinned], laidTests := true, laidLooks := .later }
def TreeRefusesUptoCardSaid : Prop := Claim7.holds Tryz.pinned (.plain (OpenSpec.upto treeRefusesSpec)) treeRefusesUptoCard
end Rows
end Go.Proofs.YtdjhjfpeckndkaaGreatDoor
