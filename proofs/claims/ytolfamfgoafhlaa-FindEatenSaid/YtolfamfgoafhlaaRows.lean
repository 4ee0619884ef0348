/-
  No cell of these rows narrows 'for every input' (looked for: loops, veiled, ifaces, maps, wideKeys, modest, calm, conditions, laid).
  DERIVED. THE GIVEN ROWS OF THIS SEAT. 14 by the template 'for every input the law returns true; each argument reads behind the call as it read before'; 0 by the template 'total and deterministic' (their statements: YtolfamfgoafhlaaTotals.lean).
  GIVEN WITH THE SEED: the statements are not yours to turn. If you find one false, say at which input.
  Laid BY PROGRAM, IN A SANDBOX (cutbox-rows.mjs): the forced cells as the released guide's own fill.sh prints them over the translation 8bf0f13c64c50c58… (all of the seat's roots in one cut). By AI agents, Wed Nov 11 2026. No macro, syntax, notation, axiom, sorry.
-/
import Derived.Test.YtolfamfgoafhlaaChecked
import GoSem.Claim
import GoSem.ClaimJoined
import GoSem.ClaimMapViews
import Derived.JoinedTies
import Derived.KernelRfl
namespace Go.Proofs.Ytolfamfgoafhlaa
/- THE CELL 'sum', in the pinned program and in every row, IS THE sha256 OF THE DUMP (.gsa) THAT YtolfamfgoafhlaaProg.lean LOADS. Nothing in Lean hashes anything: it is a label: what it is worth is what the hold of that sum in a sandbox is worth. -/
noncomputable def Try.pinned : Pinned := { name := "ytolfamfgoafhlaa", sum := "8bf0f13c64c50c58aef04a8bbdbc0960d7f3f1a5d29bb62ba4793700315aa682", checked := Try.checked }
namespace Rows
def none {H : Type} : Left H := { results := [], args := [] }

/-- 'phalaropelaw16.MachineClose': WHATEVER THE INPUT: true; the input reads as it did. -/
def machineCloseSpec : ChangeSpec := { name := "machineClose", fn := fun _ => fun
  | [d1, d2, d3] => { results := [.lit (.bool true)], args := [d1, d2, d3] }
  | _ => none }
def machineCloseRow : OpenClaim := { program := "ytolfamfgoafhlaa", sum := "8bf0f13c64c50c58aef04a8bbdbc0960d7f3f1a5d29bb62ba4793700315aa682", func := "phalarope/phalaropelaw16.MachineClose", spec := "machineClose", unfollowed := true, recurses := true, plainKeys := false, apart := false }
def MachineCloseSaid : Prop := machineCloseRow.holds Try.pinned (OpenSpec.ofChange machineCloseSpec)

/-- ITS FALSE NEIGHBOUR: 'it returns false'. Refute it at one input. -/
def machineCloseWrong : ChangeSpec := { name := "machineClose", fn := fun _ => fun
  | [d1, d2, d3] => { results := [.lit (.bool false)], args := [d1, d2, d3] }
  | _ => none }
def MachineCloseWrongFalsely : Prop := machineCloseRow.holds Try.pinned (OpenSpec.ofChange machineCloseWrong)

/-- 'phalaropelaw16.MachineTags': WHATEVER THE INPUT: true; the input reads as it did. -/
def machineTagsSpec : ChangeSpec := { name := "machineTags", fn := fun _ => fun
  | [d1, d2, d3] => { results := [.lit (.bool true)], args := [d1, d2, d3] }
  | _ => none }
def machineTagsRow : OpenClaim := { program := "ytolfamfgoafhlaa", sum := "8bf0f13c64c50c58aef04a8bbdbc0960d7f3f1a5d29bb62ba4793700315aa682", func := "phalarope/phalaropelaw16.MachineTags", spec := "machineTags", unfollowed := true, recurses := true, plainKeys := false, apart := false }
def MachineTagsSaid : Prop := machineTagsRow.holds Try.pinned (OpenSpec.ofChange machineTagsSpec)

/-- ITS FALSE NEIGHBOUR: 'it returns false'. Refute it at one input. -/
def machineTagsWrong : ChangeSpec := { name := "machineTags", fn := fun _ => fun
  | [d1, d2, d3] => { results := [.lit (.bool false)], args := [d1, d2, d3] }
  | _ => none }
def MachineTagsWrongFalsely : Prop := machineTagsRow.holds Try.pinned (OpenSpec.ofChange machineTagsWrong)

/-- 'phalaropelaw16.MachineLine': WHATEVER THE INPUT: true; the input reads as it did. -/
def machineLineSpec : ChangeSpec := { name := "machineLine", fn := fun _ => fun
  | [d1, d2] => { results := [.lit (.bool true)], args := [d1, d2] }
  | _ => none }
def machineLineRow : OpenClaim := { program := "ytolfamfgoafhlaa", sum := "8bf0f13c64c50c58aef04a8bbdbc0960d7f3f1a5d29bb62ba4793700315aa682", func := "phalarope/phalaropelaw16.MachineLine", spec := "machineLine", unfollowed := true, recurses := true, plainKeys := false, apart := false }
def MachineLineSaid : Prop := machineLineRow.holds Try.pinned (OpenSpec.ofChange machineLineSpec)

/-- ITS FALSE NEIGHBOUR: 'it returns false'. Refute it at one input. -/
def machineLineWrong : ChangeSpec := { name := "machineLine", fn := fun _ => fun
  | [d1, d2] => { results := [.lit (.bool false)], args := [d1, d2] }
  | _ => none }
def MachineLineWrongFalsely : Prop := machineLineRow.holds Try.pinned (OpenSpec.ofChange machineLineWrong)

/-- 'phalaropelaw16.MachineTells': WHATEVER THE INPUT: true; the input reads as it did. -/
def machineTellsSpec : ChangeSpec := { name := "machineTells", fn := fun _ => fun
  | [d1, d2, d3] => { results := [.lit (.bool true)], args := [d1, d2, d3] }
  | _ => none }
def machineTellsRow : OpenClaim := { program := "ytolfamfgoafhlaa", sum := "8bf0f13c64c50c58aef04a8bbdbc0960d7f3f1a5d29bb62ba4793700315aa682", func := "phalarope/phalaropelaw16.MachineTells", spec := "machineTells", unfollowed := true, recurses := true, plainKeys := false, apart := false }
def MachineTellsSaid : Prop := machineTellsRow.holds Try.pinned (OpenSpec.ofChange machineTellsSpec)

/-- ITS FALSE NEIGHBOUR: 'it returns false'. Refute it at one input. -/
def machineTellsWrong : ChangeSpec := { name := "machineTells", fn := fun _ => fun
  | [d1, d2, d3] => { results := [.lit (.bool false)], args := [d1, d2, d3] }
  | _ => none }
def MachineTellsWrongFalsely : Prop := machineTellsRow.holds Try.pinned (OpenSpec.ofChange machineTellsWrong)

/-- 'phalaropelaw16.MachineParts': WHATEVER THE INPUT: true; the input reads as it did. -/
def machinePartsSpec : ChangeSpec := { name := "machineParts", fn := fun _ => fun
  | [d1, d2] => { results := [.lit (.bool true)], args := [d1, d2] }
  | _ => none }
def machinePartsRow : OpenClaim := { program := "ytolfamfgoafhlaa", sum := "8bf0f13c64c50c58aef04a8bbdbc0960d7f3f1a5d29bb62ba4793700315aa682", func := "phalarope/phalaropelaw16.MachineParts", spec := "machineParts", unfollowed := true, recurses := true, plainKeys := false, apart := false }
def MachinePartsSaid : Prop := machinePartsRow.holds Try.pinned (OpenSpec.ofChange machinePartsSpec)

/-- ITS FALSE NEIGHBOUR: 'it returns false'. Refute it at one input. -/
def machinePartsWrong : ChangeSpec := { name := "machineParts", fn := fun _ => fun
  | [d1, d2] => { results := [.lit (.bool false)], args := [d1, d2] }
  | _ => none }
def MachinePartsWrongFalsely : Prop := machinePartsRow.holds Try.pinned (OpenSpec.ofChange machinePartsWrong)

/-- 'phalaropelaw16.MachineNobody': WHATEVER THE INPUT: true; the input reads as it did. -/
def machineNobodySpec : ChangeSpec := { name := "machineNobody", fn := fun _ => fun
  | [d1, d2, d3] => { results := [.lit (.bool true)], args := [d1, d2, d3] }
  | _ => none }
def machineNobodyRow : OpenClaim := { program := "ytolfamfgoafhlaa", sum := "8bf0f13c64c50c58aef04a8bbdbc0960d7f3f1a5d29bb62ba4793700315aa682", func := "phalarope/phalaropelaw16.MachineNobody", spec := "machineNobody", unfollowed := true, recurses := true, plainKeys := false, apart := false }
def MachineNobodySaid : Prop := machineNobodyRow.holds Try.pinned (OpenSpec.ofChange machineNobodySpec)

/-- ITS FALSE NEIGHBOUR: 'it returns false'. Refute it at one input. -/
def machineNobodyWrong : ChangeSpec := { name := "machineNobody", fn := fun _ => fun
  | [d1, d2, d3] => { results := [.lit (.bool false)], args := [d1, d2, d3] }
  | _ => none }
def MachineNobodyWrongFalsely : Prop := machineNobodyRow.holds Try.pinned (OpenSpec.ofChange machineNobodyWrong)

/-- 'phalaropelaw17.FindEaten': WHATEVER THE INPUT: true; the input reads as it did. -/
def findEatenSpec : ChangeSpec := { name := "findEaten", fn := fun _ => fun
  | [d1, d2, d3] => { results := [.lit (.bool true)], args := [d1, d2, d3] }
  | _ => none }
def findEatenRow : OpenClaim := { program := "ytolfamfgoafhlaa", sum := "8bf0f13c64c50c58aef04a8bbdbc0960d7f3f1a5d29bb62ba4793700315aa682", func := "phalarope/phalaropelaw17.FindEaten", spec := "findEaten", unfollowed := true, recurses := true, plainKeys := false, apart := false }
def FindEatenSaid : Prop := findEatenRow.holds Try.pinned (OpenSpec.ofChange findEatenSpec)

/-- ITS FALSE NEIGHBOUR: 'it returns false'. Refute it at one input. -/
def findEatenWrong : ChangeSpec := { name := "findEaten", fn := fun _ => fun
  | [d1, d2, d3] => { results := [.lit (.bool false)], args := [d1, d2, d3] }
  | _ => none }
def FindEatenWrongFalsely : Prop := findEatenRow.holds Try.pinned (OpenSpec.ofChange findEatenWrong)

/-- 'phalaropelaw22.MeetTells': WHATEVER THE INPUT: true; the input reads as it did. -/
def meetTellsSpec : ChangeSpec := { name := "meetTells", fn := fun _ => fun
  | [d1, d2] => { results := [.lit (.bool true)], args := [d1, d2] }
  | _ => none }
def meetTellsRow : OpenClaim := { program := "ytolfamfgoafhlaa", sum := "8bf0f13c64c50c58aef04a8bbdbc0960d7f3f1a5d29bb62ba4793700315aa682", func := "phalarope/phalaropelaw22.MeetTells", spec := "meetTells", unfollowed := true, recurses := true, plainKeys := false, apart := false }
def MeetTellsSaid : Prop := meetTellsRow.holds Try.pinned (OpenSpec.ofChange meetTellsSpec)

/-- ITS FALSE NEIGHBOUR: 'it returns false'. Refute it at one input. -/
def meetTellsWrong : ChangeSpec := { name := "meetTells", fn := fun _ => fun
  | [d1, d2] => { results := [.lit (.bool false)], args := [d1, d2] }
  | _ => none }
def MeetTellsWrongFalsely : Prop := meetTellsRow.holds Try.pinned (OpenSpec.ofChange meetTellsWrong)

/-- 'phalaropelaw22.MeetUnion': WHATEVER THE INPUT: true; the input reads as it did. -/
def meetUnionSpec : ChangeSpec := { name := "meetUnion", fn := fun _ => fun
  | [d] => { results := [.lit (.bool true)], args := [d] }
  | _ => none }
def meetUnionRow : OpenClaim := { program := "ytolfamfgoafhlaa", sum := "8bf0f13c64c50c58aef04a8bbdbc0960d7f3f1a5d29bb62ba4793700315aa682", func := "phalarope/phalaropelaw22.MeetUnion", spec := "meetUnion", unfollowed := true, recurses := true, plainKeys := false, apart := false }
def MeetUnionSaid : Prop := meetUnionRow.holds Try.pinned (OpenSpec.ofChange meetUnionSpec)

/-- ITS FALSE NEIGHBOUR: 'it returns false'. Refute it at one input. -/
def meetUnionWrong : ChangeSpec := { name := "meetUnion", fn := fun _ => fun
  | [d] => { results := [.lit (.bool false)], args := [d] }
  | _ => none }
def MeetUnionWrongFalsely : Prop := meetUnionRow.holds Try.pinned (OpenSpec.ofChange meetUnionWrong)

/-- 'phalaropelaw22.MeetSame': WHATEVER THE INPUT: true; the input reads as it did. -/
def meetSameSpec : ChangeSpec := { name := "meetSame", fn := fun _ => fun
  | [d1, d2, d3] => { results := [.lit (.bool true)], args := [d1, d2, d3] }
  | _ => none }
def meetSameRow : OpenClaim := { program := "ytolfamfgoafhlaa", sum := "8bf0f13c64c50c58aef04a8bbdbc0960d7f3f1a5d29bb62ba4793700315aa682", func := "phalarope/phalaropelaw22.MeetSame", spec := "meetSame", unfollowed := true, recurses := true, plainKeys := false, apart := false }
def MeetSameSaid : Prop := meetSameRow.holds Try.pinned (OpenSpec.ofChange meetSameSpec)

/-- ITS FALSE NEIGHBOUR: 'it returns false'. Refute it at one input. -/
def meetSameWrong : ChangeSpec := { name := "meetSame", fn := fun _ => fun
  | [d1, d2, d3] => { results := [.lit (.bool false)], args := [d1, d2, d3] }
  | _ => none }
def MeetSameWrongFalsely : Prop := meetSameRow.holds Try.pinned (OpenSpec.ofChange meetSameWrong)

/-- 'phalaropelaw22.MeetLines': WHATEVER THE INPUT: true; the input reads as it did. -/
def meetLinesSpec : ChangeSpec := { name := "meetLines", fn := fun _ => fun
  | [d1, d2] => { results := [.lit (.bool true)], args := [d1, d2] }
  | _ => none }
def meetLinesRow : OpenClaim := { program := "ytolfamfgoafhlaa", sum := "8bf0f13c64c50c58aef04a8bbdbc0960d7f3f1a5d29bb62ba4793700315aa682", func := "phalarope/phalaropelaw22.MeetLines", spec := "meetLines", unfollowed := true, recurses := true, plainKeys := false, apart := false }
def MeetLinesSaid : Prop := meetLinesRow.holds Try.pinned (OpenSpec.ofChange meetLinesSpec)

/-- ITS FALSE NEIGHBOUR: 'it returns false'. Refute it at one input. -/
def meetLinesWrong : ChangeSpec := { name := "meetLines", fn := fun _ => fun
  | [d1, d2] => { results := [.lit (.bool false)], args := [d1, d2] }
  | _ => none }
def MeetLinesWrongFalsely : Prop := meetLinesRow.holds Try.pinned (OpenSpec.ofChange meetLinesWrong)

/-- 'phalaropelaw20.TwinShort': WHATEVER THE INPUT: true; the input reads as it did. -/
def twinShortSpec : ChangeSpec := { name := "twinShort", fn := fun _ => fun
  | [d1, d2] => { results := [.lit (.bool true)], args := [d1, d2] }
  | _ => none }
def twinShortRow : OpenClaim := { program := "ytolfamfgoafhlaa", sum := "8bf0f13c64c50c58aef04a8bbdbc0960d7f3f1a5d29bb62ba4793700315aa682", func := "phalarope/phalaropelaw20.TwinShort", spec := "twinShort", unfollowed := true, recurses := true, plainKeys := false, apart := false }
def TwinShortSaid : Prop := twinShortRow.holds Try.pinned (OpenSpec.ofChange twinShortSpec)

/-- ITS FALSE NEIGHBOUR: 'it returns false'. Refute it at one input. -/
def twinShortWrong : ChangeSpec := { name := "twinShort", fn := fun _ => fun
  | [d1, d2] => { results := [.lit (.bool false)], args := [d1, d2] }
  | _ => none }
def TwinShortWrongFalsely : Prop := twinShortRow.holds Try.pinned (OpenSpec.ofChange twinShortWrong)

/-- 'phalaropelaw22.MeetEats': WHATEVER THE INPUT: true; the input reads as it did. -/
def meetEatsSpec : ChangeSpec := { name := "meetEats", fn := fun _ => fun
  | [d1, d2, d3] => { results := [.lit (.bool true)], args := [d1, d2, d3] }
  | _ => none }
def meetEatsRow : OpenClaim := { program := "ytolfamfgoafhlaa", sum := "8bf0f13c64c50c58aef04a8bbdbc0960d7f3f1a5d29bb62ba4793700315aa682", func := "phalarope/phalaropelaw22.MeetEats", spec := "meetEats", unfollowed := true, recurses := true, plainKeys := false, apart := false }
def MeetEatsSaid : Prop := meetEatsRow.holds Try.pinned (OpenSpec.ofChange meetEatsSpec)

/-- ITS FALSE NEIGHBOUR: 'it returns false'. Refute it at one input. -/
def meetEatsWrong : ChangeSpec := { name := "meetEats", fn := fun _ => fun
  | [d1, d2, d3] => { results := [.lit (.bool false)], args := [d1, d2, d3] }
  | _ => none }
def MeetEatsWrongFalsely : Prop := meetEatsRow.holds Try.pinned (OpenSpec.ofChange meetEatsWrong)

/-- 'phalaropelaw20.TwinTells': WHATEVER THE INPUT: true; the input reads as it did. -/
def twinTellsSpec : ChangeSpec := { name := "twinTells", fn := fun _ => fun
  | [d] => { results := [.lit (.bool true)], args := [d] }
  | _ => none }
def twinTellsRow : OpenClaim := { program := "ytolfamfgoafhlaa", sum := "8bf0f13c64c50c58aef04a8bbdbc0960d7f3f1a5d29bb62ba4793700315aa682", func := "phalarope/phalaropelaw20.TwinTells", spec := "twinTells", unfollowed := true, recurses := true, plainKeys := false, apart := false }
def TwinTellsSaid : Prop := twinTellsRow.holds Try.pinned (OpenSpec.ofChange twinTellsSpec)

/-- ITS FALSE NEIGHBOUR: 'it returns false'. Refute it at one input. -/
def twinTellsWrong : ChangeSpec := { name := "twinTells", fn := fun _ => fun
  | [d] => { results := [.lit (.bool false)], args := [d] }
  | _ => none }
def TwinTellsWrongFalsely : Prop := twinTellsRow.holds Try.pinned (OpenSpec.ofChange twinTellsWrong)

/- THE SECOND FORM. 'bulk': how many values and letters a reading holds, each counted each time it is reached (what is shared counts as often as it is met; a slice's spare places count too). A statement '..UptoSaid' is the law's where the arguments, and the package variables that the reading takes, are together of bulk at most 1048576: NARROWER than '..Said'. Prove '..Said' where nothing that the law and all that it calls make is longer than what came in: it says more and counts as full. Else prove '..UptoSaid'. A law counts once. -/
mutual
def uptoBulk {H : Type} : DataW H → Nat
  | .lit (.string bytes) => bytes.length + 1
  | .lit _ => 1
  | .nil => 1
  | .ptr d => uptoBulk d + 1
  | .slice elems spare => uptoBulkAll elems + uptoBulkAll spare + 1
  | .agg parts => uptoBulkAll parts + 1
  | .iface _ d => uptoBulk d + 1
  | .map entries => uptoBulkEntries entries + 1
  | .held _ => 1
def uptoBulkAll {H : Type} : List (DataW H) → Nat
  | [] => 0
  | d :: r => uptoBulk d + uptoBulkAll r
def uptoBulkEntries {H : Type} : List (Lit × DataW H) → Nat
  | [] => 0
  | x :: r => uptoBulkEntry x + uptoBulkEntries r
def uptoBulkEntry {H : Type} : Lit × DataW H → Nat
  | (.string bytes, d) => bytes.length + uptoBulk d + 1
  | (_, d) => uptoBulk d + 1
 end
def uptoSmall : (H : Type) → List (DataW H) → Bool := fun _ ds => decide (uptoBulkAll ds ≤ 1048576)
def OpenSpec.upto (s : _root_.Go.ChangeSpec) : _root_.Go.OpenSpec := { _root_.Go.OpenSpec.ofChange s with cond := some uptoSmall }

/-- 'phalaropelaw16.MachineClose', WHERE WHAT IT READS IS OF BULK AT MOST 1048576: true; the input reads as it did. -/
def machineCloseUptoRow : OpenClaim := { program := "ytolfamfgoafhlaa", sum := "8bf0f13c64c50c58aef04a8bbdbc0960d7f3f1a5d29bb62ba4793700315aa682", func := "phalarope/phalaropelaw16.MachineClose", spec := "machineClose", unfollowed := true, recurses := true, plainKeys := false, apart := false, narrowed := true }
def MachineCloseUptoSaid : Prop := machineCloseUptoRow.holds Try.pinned (OpenSpec.upto machineCloseSpec)

/-- 'phalaropelaw16.MachineTags', WHERE WHAT IT READS IS OF BULK AT MOST 1048576: true; the input reads as it did. -/
def machineTagsUptoRow : OpenClaim := { program := "ytolfamfgoafhlaa", sum := "8bf0f13c64c50c58aef04a8bbdbc0960d7f3f1a5d29bb62ba4793700315aa682", func := "phalarope/phalaropelaw16.MachineTags", spec := "machineTags", unfollowed := true, recurses := true, plainKeys := false, apart := false, narrowed := true }
def MachineTagsUptoSaid : Prop := machineTagsUptoRow.holds Try.pinned (OpenSpec.upto machineTagsSpec)

/-- 'phalaropelaw16.MachineLine', WHERE WHAT IT READS IS OF BULK AT MOST 1048576: true; the input reads as it did. -/
def machineLineUptoRow : OpenClaim := { program := "ytolfamfgoafhlaa", sum := "8bf0f13c64c50c58aef04a8bbdbc0960d7f3f1a5d29bb62ba4793700315aa682", func := "phalarope/phalaropelaw16.MachineLine", spec := "machineLine", unfollowed := true, recurses := true, plainKeys := false, apart := false, narrowed := true }
def MachineLineUptoSaid : Prop := machineLineUptoRow.holds Try.pinned (OpenSpec.upto machineLineSpec)

/-- 'phalaropelaw16.MachineTells', WHERE WHAT IT READS IS OF BULK AT MOST 1048576: true; the input reads as it did. -/
def machineTellsUptoRow : OpenClaim := { program := "ytolfamfgoafhlaa", sum := "8bf0f13c64c50c58aef04a8bbdbc0960d7f3f1a5d29bb62ba4793700315aa682", func := "phalarope/phalaropelaw16.MachineTells", spec := "machineTells", unfollowed := true, recurses := true, plainKeys := false, apart := false, narrowed := true }
def MachineTellsUptoSaid : Prop := machineTellsUptoRow.holds Try.pinned (OpenSpec.upto machineTellsSpec)

/-- 'phalaropelaw16.MachineParts', WHERE WHAT IT READS IS OF BULK AT MOST 1048576: true; the input reads as it did. -/
def machinePartsUptoRow : OpenClaim := { program := "ytolfamfgoafhlaa", sum := "8bf0f13c64c50c58aef04a8bbdbc0960d7f3f1a5d29bb62ba4793700315aa682", func := "phalarope/phalaropelaw16.MachineParts", spec := "machineParts", unfollowed := true, recurses := true, plainKeys := false, apart := false, narrowed := true }
def MachinePartsUptoSaid : Prop := machinePartsUptoRow.holds Try.pinned (OpenSpec.upto machinePartsSpec)

/-- 'phalaropelaw16.MachineNobody', WHERE WHAT IT READS IS OF BULK AT MOST 1048576: true; the input reads as it did. -/
def machineNobodyUptoRow : OpenClaim := { program := "ytolfamfgoafhlaa", sum := "8bf0f13c64c50c58aef04a8bbdbc0960d7f3f1a5d29bb62ba4793700315aa682", func := "phalarope/phalaropelaw16.MachineNobody", spec := "machineNobody", unfollowed := true, recurses := true, plainKeys := false, apart := false, narrowed := true }
def MachineNobodyUptoSaid : Prop := machineNobodyUptoRow.holds Try.pinned (OpenSpec.upto machineNobodySpec)

/-- 'phalaropelaw17.FindEaten', WHERE WHAT IT READS IS OF BULK AT MOST 1048576: true; the input reads as it did. -/
def findEatenUptoRow : OpenClaim := { program := "ytolfamfgoafhlaa", sum := "8bf0f13c64c50c58aef04a8bbdbc0960d7f3f1a5d29bb62ba4793700315aa682", func := "phalarope/phalaropelaw17.FindEaten", spec := "findEaten", unfollowed := true, recurses := true, plainKeys := false, apart := false, narrowed := true }
def FindEatenUptoSaid : Prop := findEatenUptoRow.holds Try.pinned (OpenSpec.upto findEatenSpec)

/-- 'phalaropelaw22.MeetTells', WHERE WHAT IT READS IS OF BULK AT MOST 1048576: true; the input reads as it did. -/
def meetTellsUptoRow : OpenClaim := { program := "ytolfamfgoafhlaa", sum := "8bf0f13c64c50c58aef04a8bbdbc0960d7f3f1a5d29bb62ba4793700315aa682", func := "phalarope/phalaropelaw22.MeetTells", spec := "meetTells", unfollowed := true, recurses := true, plainKeys := false, apart := false, narrowed := true }
def MeetTellsUptoSaid : Prop := meetTellsUptoRow.holds Try.pinned (OpenSpec.upto meetTellsSpec)

/-- 'phalaropelaw22.MeetUnion', WHERE WHAT IT READS IS OF BULK AT MOST 1048576: true; the input reads as it did. -/
def meetUnionUptoRow : OpenClaim := { program := "ytolfamfgoafhlaa", sum := "8bf0f13c64c50c58aef04a8bbdbc0960d7f3f1a5d29bb62ba4793700315aa682", func := "phalarope/phalaropelaw22.MeetUnion", spec := "meetUnion", unfollowed := true, recurses := true, plainKeys := false, apart := false, narrowed := true }
def MeetUnionUptoSaid : Prop := meetUnionUptoRow.holds Try.pinned (OpenSpec.upto meetUnionSpec)

/-- 'phalaropelaw22.MeetSame', WHERE WHAT IT READS IS OF BULK AT MOST 1048576: true; the input reads as it did. -/
def meetSameUptoRow : OpenClaim := { program := "ytolfamfgoafhlaa", sum := "8bf0f13c64c50c58aef04a8bbdbc0960d7f3f1a5d29bb62ba4793700315aa682", func := "phalarope/phalaropelaw22.MeetSame", spec := "meetSame", unfollowed := true, recurses := true, plainKeys := false, apart := false, narrowed := true }
def MeetSameUptoSaid : Prop := meetSameUptoRow.holds Try.pinned (OpenSpec.upto meetSameSpec)

/-- 'phalaropelaw22.MeetLines', WHERE WHAT IT READS IS OF BULK AT MOST 1048576: true; the input reads as it did. -/
def meetLinesUptoRow : OpenClaim := { program := "ytolfamfgoafhlaa", sum := "8bf0f13c64c50c58aef04a8bbdbc0960d7f3f1a5d29bb62ba4793700315aa682", func := "phalarope/phalaropelaw22.MeetLines", spec := "meetLines", unfollowed := true, recurses := true, plainKeys := false, apart := false, narrowed := true }
def MeetLinesUptoSaid : Prop := meetLinesUptoRow.holds Try.pinned (OpenSpec.upto meetLinesSpec)

/-- 'phalaropelaw20.TwinShort', WHERE WHAT IT READS IS OF BULK AT MOST 1048576: true; the input reads as it did. -/
def twinShortUptoRow : OpenClaim := { program := "ytolfamfgoafhlaa", sum := "8bf0f13c64c50c58aef04a8bbdbc0960d7f3f1a5d29bb62ba4793700315aa682", func := "phalarope/phalaropelaw20.TwinShort", spec := "twinShort", unfollowed := true, recurses := true, plainKeys := false, apart := false, narrowed := true }
def TwinShortUptoSaid : Prop := twinShortUptoRow.holds Try.pinned (OpenSpec.upto twinShortSpec)

/-- 'phalaropelaw22.MeetEats', WHERE WHAT IT READS IS OF BULK AT MOST 1048576: true; the input reads as it did. -/
def meetEatsUptoRow : OpenClaim := { program := "ytolfamfgoafhlaa", sum := "8bf0f13c64c50c58aef04a8bbdbc0960d7f3f1a5d29bb62ba4793700315aa682", func := "phalarope/phalaropelaw22.MeetEats", spec := "meetEats", unfollowed := true, recurses := true, plainKeys := false, apart := false, narrowed := true }
def MeetEatsUptoSaid : Prop := meetEatsUptoRow.holds Try.pinned (OpenSpec.upto meetEatsSpec)

/-- 'phalaropelaw20.TwinTells', WHERE WHAT IT READS IS OF BULK AT MOST 1048576: true; the input reads as it did. -/
def twinTellsUptoRow : OpenClaim := { program := "ytolfamfgoafhlaa", sum := "8bf0f13c64c50c58aef04a8bbdbc0960d7f3f1a5d29bb62ba4793700315aa682", func := "phalarope/phalaropelaw20.TwinTells", spec := "twinTells", unfollowed := true, recurses := true, plainKeys := false, apart := false, narrowed := true }
def TwinTellsUptoSaid : Prop := twinTellsUptoRow.holds Try.pinned (OpenSpec.upto twinTellsSpec)

end Rows
end Go.Proofs.Ytolfamfgoafhlaa
