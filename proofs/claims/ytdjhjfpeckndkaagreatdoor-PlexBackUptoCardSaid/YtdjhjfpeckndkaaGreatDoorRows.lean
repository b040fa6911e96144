/-
  NARROWER THAN 'FOR EVERY INPUT', by the rows' own cells (each row's printed sentence says how): PlexPlaces: laid · PlexBack: loops, laid · PlexCuts: loops, laid · PreadBack: loops, laid · PreadChains: loops, laid · PreadApart: loops, laid · ViewSound: laid · ViewBack: laid · ViewMoved: laid · TreeInherits: laid · TreeJoined: laid · TreeRefuses: laid.
  DERIVED. THE GIVEN ROWS OF THIS SEAT. 12 by the template 'for every input the law returns true; each argument reads behind the call as it read before'; 0 by the template 'total and deterministic' (their statements: YtdjhjfpeckndkaaGreatDoorTotals.lean).
  GIVEN WITH THE SEED: the statements are not yours to turn. If you find one false, say at which input.
  Laid BY PROGRAM, IN A SANDBOX (cutbox-rows.mjs): the forced cells as the released guide's own fill.sh prints them over the translation 5de7a27fbb841d83… (all of the seat's roots in one cut). By AI agents, Wed Nov 11 2026. No macro, syntax, notation, axiom, sorry.
-/
import Derived.Test.YtdjhjfpeckndkaaGreatDoorChecked
import GoSem.PinnedTables
import GoSem.Claim
import GoSem.ClaimJoined
import GoSem.ClaimMapViews
import Derived.JoinedTies
import Derived.KernelRfl
namespace Go.Proofs.YtdjhjfpeckndkaaGreatDoor
/- THE CELL 'sum', in the pinned program and in every row, IS THE sha256 OF THE DUMP (.gsa) THAT YtdjhjfpeckndkaaGreatDoorProg.lean LOADS. Nothing in Lean hashes anything: it is a label: what it is worth is what the hold of that sum in a sandbox is worth. -/
noncomputable def Tryz.pinned : Pinned := { name := "ytdjhjfpeckndkaagreatdoor", sum := "5de7a27fbb841d838469ed8d4e85023e9d69862a19bbbbde3dc662d3ab457b61", checked := Tryz.checked }
namespace Rows
def none {H : Type} : Left H := { results := [], args := [] }

/- WHAT THE LISTED PACKAGE-LEVEL VARIABLES READ AS WHEN THE CALL BEGINS. Each datum BY PROGRAM (the guide's laid-datum.mjs) off the statement by which the dump's own 'gosem.cut.vars' lays the variable. In a bare row this is a premise. The card (YtdjhjfpeckndkaaGreatDoorCards.lean) ties it to the program's text. -/
def laid_unicode_utf8_acceptRanges {H : Type} : DataW H := .agg [.agg [.lit (.int .u8 128), .lit (.int .u8 191)], .agg [.lit (.int .u8 160), .lit (.int .u8 191)], .agg [.lit (.int .u8 128), .lit (.int .u8 159)], .agg [.lit (.int .u8 144), .lit (.int .u8 191)], .agg [.lit (.int .u8 128), .lit (.int .u8 143)], .agg [.lit (.int .u8 0), .lit (.int .u8 0)], .agg [.lit (.int .u8 0), .lit (.int .u8 0)], .agg [.lit (.int .u8 0), .lit (.int .u8 0)], .agg [.lit (.int .u8 0), .lit (.int .u8 0)], .agg [.lit (.int .u8 0), .lit (.int .u8 0)], .agg [.lit (.int .u8 0), .lit (.int .u8 0)], .agg [.lit (.int .u8 0), .lit (.int .u8 0)], .agg [.lit (.int .u8 0), .lit (.int .u8 0)], .agg [.lit (.int .u8 0), .lit (.int .u8 0)], .agg [.lit (.int .u8 0), .lit (.int .u8 0)], .agg [.lit (.int .u8 0), .lit (.int .u8 0)]]
/-- One of Go's own tables, pinned by name: the form's constant. -/
def laid_unicode_utf8_first : DataW Unit := Go.Pinned.utf8First
def laid_mezzotint_font_names {H : Type} : DataW H := .agg [.lit (.string [67, 111, 117, 114, 105, 101, 114]), .lit (.string [67, 111, 117, 114, 105, 101, 114, 45, 66, 111, 108, 100]), .lit (.string [67, 111, 117, 114, 105, 101, 114, 45, 79, 98, 108, 105, 113, 117, 101]), .lit (.string [67, 111, 117, 114, 105, 101, 114, 45, 66, 111, 108, 100, 79, 98, 108, 105, 113, 117, 101]), .lit (.string [72, 101, 108, 118, 101, 116, 105, 99, 97]), .lit (.string [72, 101, 108, 118, 101, 116, 105, 99, 97, 45, 66, 111, 108, 100]), .lit (.string [72, 101, 108, 118, 101, 116, 105, 99, 97, 45, 79, 98, 108, 105, 113, 117, 101]), .lit (.string [72, 101, 108, 118, 101, 116, 105, 99, 97, 45, 66, 111, 108, 100, 79, 98, 108, 105, 113, 117, 101]), .lit (.string [84, 105, 109, 101, 115, 45, 82, 111, 109, 97, 110]), .lit (.string [84, 105, 109, 101, 115, 45, 66, 111, 108, 100]), .lit (.string [84, 105, 109, 101, 115, 45, 73, 116, 97, 108, 105, 99]), .lit (.string [84, 105, 109, 101, 115, 45, 66, 111, 108, 100, 73, 116, 97, 108, 105, 99]), .lit (.string [83, 121, 109, 98, 111, 108]), .lit (.string [90, 97, 112, 102, 68, 105, 110, 103, 98, 97, 116, 115])]

/-- 'mezzotintlaw19.PlexPlaces': WHATEVER THE INPUT: true; the input reads as it did. -/
def plexPlacesSpec : ChangeSpec := { name := "plexPlaces", fn := fun _ => fun
  | [d1, d2] => { results := [.lit (.bool true)], args := [d1, d2] }
  | _ => none }
def plexPlacesRow : OpenClaim := { program := "ytdjhjfpeckndkaagreatdoor", sum := "5de7a27fbb841d838469ed8d4e85023e9d69862a19bbbbde3dc662d3ab457b61", func := "mezzotint/mezzotintlaw19.PlexPlaces", spec := "plexPlaces", inPlace := ["internal/bytealg.IndexByteString", "internal/bytealg.IndexString", "internal/abi.NoEscape", "internal/bytealg.MakeNoZero"], unfollowed := true, recurses := true, named := ["internal/bytealg.MaxLen", "unicode/utf8.first", "unicode/utf8.acceptRanges"], apart := false, laid := [("unicode/utf8.acceptRanges", laid_unicode_utf8_acceptRanges), ("unicode/utf8.first", laid_unicode_utf8_first)] }
def PlexPlacesSaid : Prop := plexPlacesRow.holds Tryz.pinned (OpenSpec.ofChange plexPlacesSpec)

/-- ITS FALSE NEIGHBOUR: 'it returns false'. Refute it at one input. -/
def plexPlacesWrong : ChangeSpec := { name := "plexPlaces", fn := fun _ => fun
  | [d1, d2] => { results := [.lit (.bool false)], args := [d1, d2] }
  | _ => none }
def PlexPlacesWrongFalsely : Prop := plexPlacesRow.holds Tryz.pinned (OpenSpec.ofChange plexPlacesWrong)

/-- 'mezzotintlaw19.PlexBack': WHATEVER THE INPUT: true; the input reads as it did. -/
def plexBackSpec : ChangeSpec := { name := "plexBack", fn := fun _ => fun
  | [d1, d2, d3] => { results := [.lit (.bool true)], args := [d1, d2, d3] }
  | _ => none }
def plexBackRow : OpenClaim := { program := "ytdjhjfpeckndkaagreatdoor", sum := "5de7a27fbb841d838469ed8d4e85023e9d69862a19bbbbde3dc662d3ab457b61", func := "mezzotint/mezzotintlaw19.PlexBack", spec := "plexBack", inPlace := ["internal/bytealg.IndexByteString", "internal/bytealg.IndexString", "internal/abi.NoEscape", "internal/bytealg.MakeNoZero"], unfollowed := true, recurses := true, named := ["internal/bytealg.MaxLen", "unicode/utf8.first", "unicode/utf8.acceptRanges"], loops := true, apart := false, laid := [("unicode/utf8.acceptRanges", laid_unicode_utf8_acceptRanges), ("unicode/utf8.first", laid_unicode_utf8_first)] }
def PlexBackSaid : Prop := plexBackRow.holds Tryz.pinned (OpenSpec.ofChange plexBackSpec)

/-- ITS FALSE NEIGHBOUR: 'it returns false'. Refute it at one input. -/
def plexBackWrong : ChangeSpec := { name := "plexBack", fn := fun _ => fun
  | [d1, d2, d3] => { results := [.lit (.bool false)], args := [d1, d2, d3] }
  | _ => none }
def PlexBackWrongFalsely : Prop := plexBackRow.holds Tryz.pinned (OpenSpec.ofChange plexBackWrong)

/-- 'mezzotintlaw19.PlexCuts': WHATEVER THE INPUT: true; the input reads as it did. -/
def plexCutsSpec : ChangeSpec := { name := "plexCuts", fn := fun _ => fun
  | [d1, d2] => { results := [.lit (.bool true)], args := [d1, d2] }
  | _ => none }
def plexCutsRow : OpenClaim := { program := "ytdjhjfpeckndkaagreatdoor", sum := "5de7a27fbb841d838469ed8d4e85023e9d69862a19bbbbde3dc662d3ab457b61", func := "mezzotint/mezzotintlaw19.PlexCuts", spec := "plexCuts", inPlace := ["internal/bytealg.IndexByteString", "internal/bytealg.IndexString", "internal/abi.NoEscape", "internal/bytealg.MakeNoZero"], unfollowed := true, recurses := true, named := ["internal/bytealg.MaxLen", "unicode/utf8.first", "unicode/utf8.acceptRanges"], loops := true, apart := false, laid := [("unicode/utf8.acceptRanges", laid_unicode_utf8_acceptRanges), ("unicode/utf8.first", laid_unicode_utf8_first)] }
def PlexCutsSaid : Prop := plexCutsRow.holds Tryz.pinned (OpenSpec.ofChange plexCutsSpec)

/-- ITS FALSE NEIGHBOUR: 'it returns false'. Refute it at one input. -/
def plexCutsWrong : ChangeSpec := { name := "plexCuts", fn := fun _ => fun
  | [d1, d2] => { results := [.lit (.bool false)], args := [d1, d2] }
  | _ => none }
def PlexCutsWrongFalsely : Prop := plexCutsRow.holds Tryz.pinned (OpenSpec.ofChange plexCutsWrong)

/-- 'mezzotintlaw23.PreadBack': WHATEVER THE INPUT: true; the input reads as it did. -/
def preadBackSpec : ChangeSpec := { name := "preadBack", fn := fun _ => fun
  | [d] => { results := [.lit (.bool true)], args := [d] }
  | _ => none }
def preadBackRow : OpenClaim := { program := "ytdjhjfpeckndkaagreatdoor", sum := "5de7a27fbb841d838469ed8d4e85023e9d69862a19bbbbde3dc662d3ab457b61", func := "mezzotint/mezzotintlaw23.PreadBack", spec := "preadBack", inPlace := ["internal/bytealg.IndexByteString", "internal/bytealg.IndexString", "internal/abi.NoEscape", "internal/bytealg.MakeNoZero"], unfollowed := true, recurses := true, named := ["unicode/utf8.first", "unicode/utf8.acceptRanges", "internal/bytealg.MaxLen"], loops := true, apart := false, laid := [("unicode/utf8.acceptRanges", laid_unicode_utf8_acceptRanges), ("unicode/utf8.first", laid_unicode_utf8_first)] }
def PreadBackSaid : Prop := preadBackRow.holds Tryz.pinned (OpenSpec.ofChange preadBackSpec)

/-- ITS FALSE NEIGHBOUR: 'it returns false'. Refute it at one input. -/
def preadBackWrong : ChangeSpec := { name := "preadBack", fn := fun _ => fun
  | [d] => { results := [.lit (.bool false)], args := [d] }
  | _ => none }
def PreadBackWrongFalsely : Prop := preadBackRow.holds Tryz.pinned (OpenSpec.ofChange preadBackWrong)

/-- 'mezzotintlaw23.PreadChains': WHATEVER THE INPUT: true; the input reads as it did. -/
def preadChainsSpec : ChangeSpec := { name := "preadChains", fn := fun _ => fun
  | [d1, d2, d3] => { results := [.lit (.bool true)], args := [d1, d2, d3] }
  | _ => none }
def preadChainsRow : OpenClaim := { program := "ytdjhjfpeckndkaagreatdoor", sum := "5de7a27fbb841d838469ed8d4e85023e9d69862a19bbbbde3dc662d3ab457b61", func := "mezzotint/mezzotintlaw23.PreadChains", spec := "preadChains", inPlace := ["internal/bytealg.IndexByteString", "internal/bytealg.IndexString", "internal/abi.NoEscape", "internal/bytealg.MakeNoZero"], unfollowed := true, recurses := true, named := ["unicode/utf8.first", "unicode/utf8.acceptRanges", "internal/bytealg.MaxLen"], loops := true, apart := false, laid := [("unicode/utf8.acceptRanges", laid_unicode_utf8_acceptRanges), ("unicode/utf8.first", laid_unicode_utf8_first)] }
def PreadChainsSaid : Prop := preadChainsRow.holds Tryz.pinned (OpenSpec.ofChange preadChainsSpec)

/-- ITS FALSE NEIGHBOUR: 'it returns false'. Refute it at one input. -/
def preadChainsWrong : ChangeSpec := { name := "preadChains", fn := fun _ => fun
  | [d1, d2, d3] => { results := [.lit (.bool false)], args := [d1, d2, d3] }
  | _ => none }
def PreadChainsWrongFalsely : Prop := preadChainsRow.holds Tryz.pinned (OpenSpec.ofChange preadChainsWrong)

/-- 'mezzotintlaw23.PreadApart': WHATEVER THE INPUT: true; the input reads as it did. -/
def preadApartSpec : ChangeSpec := { name := "preadApart", fn := fun _ => fun
  | [d1, d2] => { results := [.lit (.bool true)], args := [d1, d2] }
  | _ => none }
def preadApartRow : OpenClaim := { program := "ytdjhjfpeckndkaagreatdoor", sum := "5de7a27fbb841d838469ed8d4e85023e9d69862a19bbbbde3dc662d3ab457b61", func := "mezzotint/mezzotintlaw23.PreadApart", spec := "preadApart", inPlace := ["internal/bytealg.IndexByteString", "internal/bytealg.IndexString", "internal/abi.NoEscape", "internal/bytealg.MakeNoZero"], unfollowed := true, recurses := true, named := ["unicode/utf8.first", "unicode/utf8.acceptRanges", "internal/bytealg.MaxLen"], loops := true, apart := false, laid := [("unicode/utf8.acceptRanges", laid_unicode_utf8_acceptRanges), ("unicode/utf8.first", laid_unicode_utf8_first)] }
def PreadApartSaid : Prop := preadApartRow.holds Tryz.pinned (OpenSpec.ofChange preadApartSpec)

/-- ITS FALSE NEIGHBOUR: 'it returns false'. Refute it at one input. -/
def preadApartWrong : ChangeSpec := { name := "preadApart", fn := fun _ => fun
  | [d1, d2] => { results := [.lit (.bool false)], args := [d1, d2] }
  | _ => none }
def PreadApartWrongFalsely : Prop := preadApartRow.holds Tryz.pinned (OpenSpec.ofChange preadApartWrong)

/-- 'mezzotintlaw21.ViewSound': WHATEVER THE INPUT: true; the input reads as it did. -/
def viewSoundSpec : ChangeSpec := { name := "viewSound", fn := fun _ => fun
  | [d1, d2] => { results := [.lit (.bool true)], args := [d1, d2] }
  | _ => none }
def viewSoundRow : OpenClaim := { program := "ytdjhjfpeckndkaagreatdoor", sum := "5de7a27fbb841d838469ed8d4e85023e9d69862a19bbbbde3dc662d3ab457b61", func := "mezzotint/mezzotintlaw21.ViewSound", spec := "viewSound", inPlace := ["internal/bytealg.IndexByteString", "internal/bytealg.IndexString", "internal/abi.NoEscape", "internal/bytealg.MakeNoZero"], unfollowed := true, recurses := true, named := ["internal/bytealg.MaxLen", "unicode/utf8.first", "unicode/utf8.acceptRanges"], apart := false, laid := [("unicode/utf8.acceptRanges", laid_unicode_utf8_acceptRanges), ("unicode/utf8.first", laid_unicode_utf8_first)] }
def ViewSoundSaid : Prop := viewSoundRow.holds Tryz.pinned (OpenSpec.ofChange viewSoundSpec)

/-- ITS FALSE NEIGHBOUR: 'it returns false'. Refute it at one input. -/
def viewSoundWrong : ChangeSpec := { name := "viewSound", fn := fun _ => fun
  | [d1, d2] => { results := [.lit (.bool false)], args := [d1, d2] }
  | _ => none }
def ViewSoundWrongFalsely : Prop := viewSoundRow.holds Tryz.pinned (OpenSpec.ofChange viewSoundWrong)

/-- 'mezzotintlaw21.ViewBack': WHATEVER THE INPUT: true; the input reads as it did. -/
def viewBackSpec : ChangeSpec := { name := "viewBack", fn := fun _ => fun
  | [d] => { results := [.lit (.bool true)], args := [d] }
  | _ => none }
def viewBackRow : OpenClaim := { program := "ytdjhjfpeckndkaagreatdoor", sum := "5de7a27fbb841d838469ed8d4e85023e9d69862a19bbbbde3dc662d3ab457b61", func := "mezzotint/mezzotintlaw21.ViewBack", spec := "viewBack", inPlace := ["internal/bytealg.IndexByteString", "internal/bytealg.IndexString", "internal/abi.NoEscape", "internal/bytealg.MakeNoZero"], unfollowed := true, recurses := true, named := ["internal/bytealg.MaxLen", "unicode/utf8.first", "unicode/utf8.acceptRanges"], apart := false, laid := [("unicode/utf8.acceptRanges", laid_unicode_utf8_acceptRanges), ("unicode/utf8.first", laid_unicode_utf8_first)] }
def ViewBackSaid : Prop := viewBackRow.holds Tryz.pinned (OpenSpec.ofChange viewBackSpec)

/-- ITS FALSE NEIGHBOUR: 'it returns false'. Refute it at one input. -/
def viewBackWrong : ChangeSpec := { name := "viewBack", fn := fun _ => fun
  | [d] => { results := [.lit (.bool false)], args := [d] }
  | _ => none }
def ViewBackWrongFalsely : Prop := viewBackRow.holds Tryz.pinned (OpenSpec.ofChange viewBackWrong)

/-- 'mezzotintlaw21.ViewMoved': WHATEVER THE INPUT: true; the input reads as it did. -/
def viewMovedSpec : ChangeSpec := { name := "viewMoved", fn := fun _ => fun
  | [d1, d2, d3] => { results := [.lit (.bool true)], args := [d1, d2, d3] }
  | _ => none }
def viewMovedRow : OpenClaim := { program := "ytdjhjfpeckndkaagreatdoor", sum := "5de7a27fbb841d838469ed8d4e85023e9d69862a19bbbbde3dc662d3ab457b61", func := "mezzotint/mezzotintlaw21.ViewMoved", spec := "viewMoved", inPlace := ["internal/bytealg.IndexByteString", "internal/bytealg.IndexString", "internal/abi.NoEscape", "internal/bytealg.MakeNoZero"], unfollowed := true, recurses := true, named := ["internal/bytealg.MaxLen", "unicode/utf8.first", "unicode/utf8.acceptRanges"], apart := false, laid := [("unicode/utf8.acceptRanges", laid_unicode_utf8_acceptRanges), ("unicode/utf8.first", laid_unicode_utf8_first)] }
def ViewMovedSaid : Prop := viewMovedRow.holds Tryz.pinned (OpenSpec.ofChange viewMovedSpec)

/-- ITS FALSE NEIGHBOUR: 'it returns false'. Refute it at one input. -/
def viewMovedWrong : ChangeSpec := { name := "viewMoved", fn := fun _ => fun
  | [d1, d2, d3] => { results := [.lit (.bool false)], args := [d1, d2, d3] }
  | _ => none }
def ViewMovedWrongFalsely : Prop := viewMovedRow.holds Tryz.pinned (OpenSpec.ofChange viewMovedWrong)

/-- 'mezzotintlaw24.TreeInherits': WHATEVER THE INPUT: true; the input reads as it did. -/
def treeInheritsSpec : ChangeSpec := { name := "treeInherits", fn := fun _ => fun
  | [d1, d2, d3] => { results := [.lit (.bool true)], args := [d1, d2, d3] }
  | _ => none }
def treeInheritsRow : OpenClaim := { program := "ytdjhjfpeckndkaagreatdoor", sum := "5de7a27fbb841d838469ed8d4e85023e9d69862a19bbbbde3dc662d3ab457b61", func := "mezzotint/mezzotintlaw24.TreeInherits", spec := "treeInherits", inPlace := ["internal/bytealg.IndexByteString", "internal/bytealg.IndexString", "internal/abi.NoEscape", "internal/bytealg.MakeNoZero"], unfollowed := true, recurses := true, named := ["unicode/utf8.first", "unicode/utf8.acceptRanges", "internal/bytealg.MaxLen", "mezzotint/font.names"], apart := false, laid := [("mezzotint/font.names", laid_mezzotint_font_names), ("unicode/utf8.acceptRanges", laid_unicode_utf8_acceptRanges), ("unicode/utf8.first", laid_unicode_utf8_first)] }
def TreeInheritsSaid : Prop := treeInheritsRow.holds Tryz.pinned (OpenSpec.ofChange treeInheritsSpec)

/-- ITS FALSE NEIGHBOUR: 'it returns false'. Refute it at one input. -/
def treeInheritsWrong : ChangeSpec := { name := "treeInherits", fn := fun _ => fun
  | [d1, d2, d3] => { results := [.lit (.bool false)], args := [d1, d2, d3] }
  | _ => none }
def TreeInheritsWrongFalsely : Prop := treeInheritsRow.holds Tryz.pinned (OpenSpec.ofChange treeInheritsWrong)

/-- 'mezzotintlaw24.TreeJoined': WHATEVER THE INPUT: true; the input reads as it did. -/
def treeJoinedSpec : ChangeSpec := { name := "treeJoined", fn := fun _ => fun
  | [d] => { results := [.lit (.bool true)], args := [d] }
  | _ => none }
def treeJoinedRow : OpenClaim := { program := "ytdjhjfpeckndkaagreatdoor", sum := "5de7a27fbb841d838469ed8d4e85023e9d69862a19bbbbde3dc662d3ab457b61", func := "mezzotint/mezzotintlaw24.TreeJoined", spec := "treeJoined", inPlace := ["internal/bytealg.IndexByteString", "internal/bytealg.IndexString", "internal/abi.NoEscape", "internal/bytealg.MakeNoZero"], unfollowed := true, recurses := true, named := ["unicode/utf8.first", "unicode/utf8.acceptRanges", "internal/bytealg.MaxLen", "mezzotint/font.names"], apart := false, laid := [("mezzotint/font.names", laid_mezzotint_font_names), ("unicode/utf8.acceptRanges", laid_unicode_utf8_acceptRanges), ("unicode/utf8.first", laid_unicode_utf8_first)] }
def TreeJoinedSaid : Prop := treeJoinedRow.holds Tryz.pinned (OpenSpec.ofChange treeJoinedSpec)

/-- ITS FALSE NEIGHBOUR: 'it returns false'. Refute it at one input. -/
def treeJoinedWrong : ChangeSpec := { name := "treeJoined", fn := fun _ => fun
  | [d] => { results := [.lit (.bool false)], args := [d] }
  | _ => none }
def TreeJoinedWrongFalsely : Prop := treeJoinedRow.holds Tryz.pinned (OpenSpec.ofChange treeJoinedWrong)

/-- 'mezzotintlaw24.TreeRefuses': WHATEVER THE INPUT: true; the input reads as it did. -/
def treeRefusesSpec : ChangeSpec := { name := "treeRefuses", fn := fun _ => fun
  | [d1, d2, d3] => { results := [.lit (.bool true)], args := [d1, d2, d3] }
  | _ => none }
def treeRefusesRow : OpenClaim := { program := "ytdjhjfpeckndkaagreatdoor", sum := "5de7a27fbb841d838469ed8d4e85023e9d69862a19bbbbde3dc662d3ab457b61", func := "mezzotint/mezzotintlaw24.TreeRefuses", spec := "treeRefuses", inPlace := ["internal/bytealg.IndexByteString", "internal/bytealg.IndexString", "internal/abi.NoEscape", "internal/bytealg.MakeNoZero"], unfollowed := true, recurses := true, named := ["unicode/utf8.first", "unicode/utf8.acceptRanges", "internal/bytealg.MaxLen", "mezzotint/font.names"], apart := false, laid := [("mezzotint/font.names", laid_mezzotint_font_names), ("unicode/utf8.acceptRanges", laid_unicode_utf8_acceptRanges), ("unicode/utf8.first", laid_unicode_utf8_first)] }
def TreeRefusesSaid : Prop := treeRefusesRow.holds Tryz.pinned (OpenSpec.ofChange treeRefusesSpec)

/-- ITS FALSE NEIGHBOUR: 'it returns false'. Refute it at one input. -/
def treeRefusesWrong : ChangeSpec := { name := "treeRefuses", fn := fun _ => fun
  | [d1, d2, d3] => { results := [.lit (.bool false)], args := [d1, d2, d3] }
  | _ => none }
def TreeRefusesWrongFalsely : Prop := treeRefusesRow.holds Tryz.pinned (OpenSpec.ofChange treeRefusesWrong)

/- THE SECOND FORM. 'bulk': how many values and letters a reading holds, each counted each time it is reached (what is shared counts as often as it is met; a slice's spare places count too). A statement '..UptoSaid' is the law's where the arguments, and the package variables that the reading takes, are together of bulk at most 1048576: NARROWER than '..Said'. Prove '..Said' where nothing that the law and all that it calls make is longer than what came in: it says more and counts as full. Else prove '..UptoSaid'. A law counts once. -/
mutual
def uptoBulk {H : Type} : DataW H → Nat
  | .lit (.string bytes) => bytes.length + 1
  | .lit _ => 1
  | .nil => 1
  | .ptr d => uptoBulk d + 1
  | .slice elems spare => uptoBulkAll elems + uptoBulkAll spare + 1
  | .agg parts => uptoBulkAll parts + 1
  | .iface _ d => uptoBulk d + 1
  | .map entries => uptoBulkEntries entries + 1
  | .held _ => 1
def uptoBulkAll {H : Type} : List (DataW H) → Nat
  | [] => 0
  | d :: r => uptoBulk d + uptoBulkAll r
def uptoBulkEntries {H : Type} : List (Lit × DataW H) → Nat
  | [] => 0
  | x :: r => uptoBulkEntry x + uptoBulkEntries r
def uptoBulkEntry {H : Type} : Lit × DataW H → Nat
  | (.string bytes, d) => bytes.length + uptoBulk d + 1
  | (_, d) => uptoBulk d + 1
 end
def uptoSmall : (H : Type) → List (DataW H) → Bool := fun _ ds => decide (uptoBulkAll ds ≤ 1048576)
def OpenSpec.upto (s : _root_.Go.ChangeSpec) : _root_.Go.OpenSpec := { _root_.Go.OpenSpec.ofChange s with cond := some uptoSmall }

/-- 'mezzotintlaw19.PlexPlaces', WHERE WHAT IT READS IS OF BULK AT MOST 1048576: true; the input reads as it did. -/
def plexPlacesUptoRow : OpenClaim := { program := "ytdjhjfpeckndkaagreatdoor", sum := "5de7a27fbb841d838469ed8d4e85023e9d69862a19bbbbde3dc662d3ab457b61", func := "mezzotint/mezzotintlaw19.PlexPlaces", spec := "plexPlaces", inPlace := ["internal/bytealg.IndexByteString", "internal/bytealg.IndexString", "internal/abi.NoEscape", "internal/bytealg.MakeNoZero"], unfollowed := true, recurses := true, named := ["internal/bytealg.MaxLen", "unicode/utf8.first", "unicode/utf8.acceptRanges"], apart := false, laid := [("unicode/utf8.acceptRanges", laid_unicode_utf8_acceptRanges), ("unicode/utf8.first", laid_unicode_utf8_first)], narrowed := true }
def PlexPlacesUptoSaid : Prop := plexPlacesUptoRow.holds Tryz.pinned (OpenSpec.upto plexPlacesSpec)

/-- 'mezzotintlaw19.PlexBack', WHERE WHAT IT READS IS OF BULK AT MOST 1048576: true; the input reads as it did. -/
def plexBackUptoRow : OpenClaim := { program := "ytdjhjfpeckndkaagreatdoor", sum := "5de7a27fbb841d838469ed8d4e85023e9d69862a19bbbbde3dc662d3ab457b61", func := "mezzotint/mezzotintlaw19.PlexBack", spec := "plexBack", inPlace := ["internal/bytealg.IndexByteString", "internal/bytealg.IndexString", "internal/abi.NoEscape", "internal/bytealg.MakeNoZero"], unfollowed := true, recurses := true, named := ["internal/bytealg.MaxLen", "unicode/utf8.first", "unicode/utf8.acceptRanges"], loops := true, apart := false, laid := [("unicode/utf8.acceptRanges", laid_unicode_utf8_acceptRanges), ("unicode/utf8.first", laid_unicode_utf8_first)], narrowed := true }
def PlexBackUptoSaid : Prop := plexBackUptoRow.holds Tryz.pinned (OpenSpec.upto plexBackSpec)

/-- 'mezzotintlaw19.PlexCuts', WHERE WHAT IT READS IS OF BULK AT MOST 1048576: true; the input reads as it did. -/
def plexCutsUptoRow : OpenClaim := { program := "ytdjhjfpeckndkaagreatdoor", sum := "5de7a27fbb841d838469ed8d4e85023e9d69862a19bbbbde3dc662d3ab457b61", func := "mezzotint/mezzotintlaw19.PlexCuts", spec := "plexCuts", inPlace := ["internal/bytealg.IndexByteString", "internal/bytealg.IndexString", "internal/abi.NoEscape", "internal/bytealg.MakeNoZero"], unfollowed := true, recurses := true, named := ["internal/bytealg.MaxLen", "unicode/utf8.first", "unicode/utf8.acceptRanges"], loops := true, apart := false, laid := [("unicode/utf8.acceptRanges", laid_unicode_utf8_acceptRanges), ("unicode/utf8.first", laid_unicode_utf8_first)], narrowed := true }
def PlexCutsUptoSaid : Prop := plexCutsUptoRow.holds Tryz.pinned (OpenSpec.upto plexCutsSpec)

/-- 'mezzotintlaw23.PreadBack', WHERE WHAT IT READS IS OF BULK AT MOST 1048576: true; the input reads as it did. -/
def preadBackUptoRow : OpenClaim := { program := "ytdjhjfpeckndkaagreatdoor", sum := "5de7a27fbb841d838469ed8d4e85023e9d69862a19bbbbde3dc662d3ab457b61", func := "mezzotint/mezzotintlaw23.PreadBack", spec := "preadBack", inPlace := ["internal/bytealg.IndexByteString", "internal/bytealg.IndexString", "internal/abi.NoEscape", "internal/bytealg.MakeNoZero"], unfollowed := true, recurses := true, named := ["unicode/utf8.first", "unicode/utf8.acceptRanges", "internal/bytealg.MaxLen"], loops := true, apart := false, laid := [("unicode/utf8.acceptRanges", laid_unicode_utf8_acceptRanges), ("unicode/utf8.first", laid_unicode_utf8_first)], narrowed := true }
def PreadBackUptoSaid : Prop := preadBackUptoRow.holds Tryz.pinned (OpenSpec.upto preadBackSpec)

/-- 'mezzotintlaw23.PreadChains', WHERE WHAT IT READS IS OF BULK AT MOST 1048576: true; the input reads as it did. -/
def preadChainsUptoRow : OpenClaim := { program := "ytdjhjfpeckndkaagreatdoor", sum := "5de7a27fbb841d838469ed8d4e85023e9d69862a19bbbbde3dc662d3ab457b61", func := "mezzotint/mezzotintlaw23.PreadChains", spec := "preadChains", inPlace := ["internal/bytealg.IndexByteString", "internal/bytealg.IndexString", "internal/abi.NoEscape", "internal/bytealg.MakeNoZero"], unfollowed := true, recurses := true, named := ["unicode/utf8.first", "unicode/utf8.acceptRanges", "internal/bytealg.MaxLen"], loops := true, apart := false, laid := [("unicode/utf8.acceptRanges", laid_unicode_utf8_acceptRanges), ("unicode/utf8.first", laid_unicode_utf8_first)], narrowed := true }
def PreadChainsUptoSaid : Prop := preadChainsUptoRow.holds Tryz.pinned (OpenSpec.upto preadChainsSpec)

/-- 'mezzotintlaw23.PreadApart', WHERE WHAT IT READS IS OF BULK AT MOST 1048576: true; the input reads as it did. -/
def preadApartUptoRow : OpenClaim := { program := "ytdjhjfpeckndkaagreatdoor", sum := "5de7a27fbb841d838469ed8d4e85023e9d69862a19bbbbde3dc662d3ab457b61", func := "mezzotint/mezzotintlaw23.PreadApart", spec := "preadApart", inPlace := ["internal/bytealg.IndexByteString", "internal/bytealg.IndexString", "internal/abi.NoEscape", "internal/bytealg.MakeNoZero"], unfollowed := true, recurses := true, named := ["unicode/utf8.first", "unicode/utf8.acceptRanges", "internal/bytealg.MaxLen"], loops := true, apart := false, laid := [("unicode/utf8.acceptRanges", laid_unicode_utf8_acceptRanges), ("unicode/utf8.first", laid_unicode_utf8_first)], narrowed := true }
def PreadApartUptoSaid : Prop := preadApartUptoRow.holds Tryz.pinned (OpenSpec.upto preadApartSpec)

/-- 'mezzotintlaw21.ViewSound', WHERE WHAT IT READS IS OF BULK AT MOST 1048576: true; the input reads as it did. -/
def viewSoundUptoRow : OpenClaim := { program := "ytdjhjfpeckndkaagreatdoor", sum := "5de7a27fbb841d838469ed8d4e85023e9d69862a19bbbbde3dc662d3ab457b61", func := "mezzotint/mezzotintlaw21.ViewSound", spec := "viewSound", inPlace := ["internal/bytealg.IndexByteString", "internal/bytealg.IndexString", "internal/abi.NoEscape", "internal/bytealg.MakeNoZero"], unfollowed := true, recurses := true, named := ["internal/bytealg.MaxLen", "unicode/utf8.first", "unicode/utf8.acceptRanges"], apart := false, laid := [("unicode/utf8.acceptRanges", laid_unicode_utf8_acceptRanges), ("unicode/utf8.first", laid_unicode_utf8_first)], narrowed := true }
def ViewSoundUptoSaid : Prop := viewSoundUptoRow.holds Tryz.pinned (OpenSpec.upto viewSoundSpec)

/-- 'mezzotintlaw21.ViewBack', WHERE WHAT IT READS IS OF BULK AT MOST 1048576: true; the input reads as it did. -/
def viewBackUptoRow : OpenClaim := { program := "ytdjhjfpeckndkaagreatdoor", sum := "5de7a27fbb841d838469ed8d4e85023e9d69862a19bbbbde3dc662d3ab457b61", func := "mezzotint/mezzotintlaw21.ViewBack", spec := "viewBack", inPlace := ["internal/bytealg.IndexByteString", "internal/bytealg.IndexString", "internal/abi.NoEscape", "internal/bytealg.MakeNoZero"], unfollowed := true, recurses := true, named := ["internal/bytealg.MaxLen", "unicode/utf8.first", "unicode/utf8.acceptRanges"], apart := false, laid := [("unicode/utf8.acceptRanges", laid_unicode_utf8_acceptRanges), ("unicode/utf8.first", laid_unicode_utf8_first)], narrowed := true }
def ViewBackUptoSaid : Prop := viewBackUptoRow.holds Tryz.pinned (OpenSpec.upto viewBackSpec)

/-- 'mezzotintlaw21.ViewMoved', WHERE WHAT IT READS IS OF BULK AT MOST 1048576: true; the input reads as it did. -/
def viewMovedUptoRow : OpenClaim := { program := "ytdjhjfpeckndkaagreatdoor", sum := "5de7a27fbb841d838469ed8d4e85023e9d69862a19bbbbde3dc662d3ab457b61", func := "mezzotint/mezzotintlaw21.ViewMoved", spec := "viewMoved", inPlace := ["internal/bytealg.IndexByteString", "internal/bytealg.IndexString", "internal/abi.NoEscape", "internal/bytealg.MakeNoZero"], unfollowed := true, recurses := true, named := ["internal/bytealg.MaxLen", "unicode/utf8.first", "unicode/utf8.acceptRanges"], apart := false, laid := [("unicode/utf8.acceptRanges", laid_unicode_utf8_acceptRanges), ("unicode/utf8.first", laid_unicode_utf8_first)], narrowed := true }
def ViewMovedUptoSaid : Prop := viewMovedUptoRow.holds Tryz.pinned (OpenSpec.upto viewMovedSpec)

/-- 'mezzotintlaw24.TreeInherits', WHERE WHAT IT READS IS OF BULK AT MOST 1048576: true; the input reads as it did. -/
def treeInheritsUptoRow : OpenClaim := { program := "ytdjhjfpeckndkaagreatdoor", sum := "5de7a27fbb841d838469ed8d4e85023e9d69862a19bbbbde3dc662d3ab457b61", func := "mezzotint/mezzotintlaw24.TreeInherits", spec := "treeInherits", inPlace := ["internal/bytealg.IndexByteString", "internal/bytealg.IndexString", "internal/abi.NoEscape", "internal/bytealg.MakeNoZero"], unfollowed := true, recurses := true, named := ["unicode/utf8.first", "unicode/utf8.acceptRanges", "internal/bytealg.MaxLen", "mezzotint/font.names"], apart := false, laid := [("mezzotint/font.names", laid_mezzotint_font_names), ("unicode/utf8.acceptRanges", laid_unicode_utf8_acceptRanges), ("unicode/utf8.first", laid_unicode_utf8_first)], narrowed := true }
def TreeInheritsUptoSaid : Prop := treeInheritsUptoRow.holds Tryz.pinned (OpenSpec.upto treeInheritsSpec)

/-- 'mezzotintlaw24.TreeJoined', WHERE WHAT IT READS IS OF BULK AT MOST 1048576: true; the input reads as it did. -/
def treeJoinedUptoRow : OpenClaim := { program := "ytdjhjfpeckndkaagreatdoor", sum := "5de7a27fbb841d838469ed8d4e85023e9d69862a19bbbbde3dc662d3ab457b61", func := "mezzotint/mezzotintlaw24.TreeJoined", spec := "treeJoined", inPlace := ["internal/bytealg.IndexByteString", "internal/bytealg.IndexString", "internal/abi.NoEscape", "internal/bytealg.MakeNoZero"], unfollowed := true, recurses := true, named := ["unicode/utf8.first", "unicode/utf8.acceptRanges", "internal/bytealg.MaxLen", "mezzotint/font.names"], apart := false, laid := [("mezzotint/font.names", laid_mezzotint_font_names), ("unicode/utf8.acceptRanges", laid_unicode_utf8_acceptRanges), ("unicode/utf8.first", laid_unicode_utf8_first)], narrowed := true }
def TreeJoinedUptoSaid : Prop := treeJoinedUptoRow.holds Tryz.pinned (OpenSpec.upto treeJoinedSpec)

/-- 'mezzotintlaw24.TreeRefuses', WHERE WHAT IT READS IS OF BULK AT MOST 1048576: true; the input reads as it did. -/
def treeRefusesUptoRow : OpenClaim := { program := "ytdjhjfpeckndkaagreatdoor", sum := "5de7a27fbb841d838469ed8d4e85023e9d69862a19bbbbde3dc662d3ab457b61", func := "mezzotint/mezzotintlaw24.TreeRefuses", spec := "treeRefuses", inPlace := ["internal/bytealg.IndexByteString", "internal/bytealg.IndexString", "internal/abi.NoEscape", "internal/bytealg.MakeNoZero"], unfollowed := true, recurses := true, named := ["unicode/utf8.first", "unicode/utf8.acceptRanges", "internal/bytealg.MaxLen", "mezzotint/font.names"], apart := false, laid := [("mezzotint/font.names", laid_mezzotint_font_names), ("unicode/utf8.acceptRanges", laid_unicode_utf8_acceptRanges), ("unicode/utf8.first", laid_unicode_utf8_first)], narrowed := true }
def TreeRefusesUptoSaid : Prop := treeRefusesUptoRow.holds Tryz.pinned (OpenSpec.upto treeRefusesSpec)

end Rows
end Go.Proofs.YtdjhjfpeckndkaaGreatDoor
