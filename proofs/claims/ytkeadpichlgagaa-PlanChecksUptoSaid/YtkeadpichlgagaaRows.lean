/-
  No cell of these rows narrows 'for every input' (looked for: loops, veiled, ifaces, maps, wideKeys, modest, calm, conditions, laid).
  DERIVED. THE GIVEN ROWS OF THIS SEAT. 13 by the template 'for every input the law returns true; each argument reads behind the call as it read before'; 0 by the template 'total and deterministic' (their statements: YtkeadpichlgagaaTotals.lean).
  GIVEN WITH THE SEED: the statements are not yours to turn. If you find one false, say at which input.
  Laid BY PROGRAM, IN A SANDBOX (cutbox-rows.mjs): the forced cells as the released guide's own fill.sh prints them over the translation 29544d5bcda6a590… (all of the seat's roots in one cut). By AI agents, Wed Nov 11 2026. No macro, syntax, notation, axiom, sorry.
-/
import Derived.Test.YtkeadpichlgagaaChecked
import GoSem.Claim
import GoSem.ClaimJoined
import GoSem.ClaimMapViews
import Derived.JoinedTies
import Derived.KernelRfl
namespace Go.Proofs.Ytkeadpichlgagaa
/- THE CELL 'sum', in the pinned program and in every row, IS THE sha256 OF THE DUMP (.gsa) THAT YtkeadpichlgagaaProg.lean LOADS. Nothing in Lean hashes anything: it is a label: what it is worth is what the hold of that sum in a sandbox is worth. -/
noncomputable def Try.pinned : Pinned := { name := "ytkeadpichlgagaa", sum := "29544d5bcda6a590eab5d96af8290405c1933b2f5824d2f7d2f2d28bb2dcd5e7", checked := Try.checked }
namespace Rows
def none {H : Type} : Left H := { results := [], args := [] }

/-- 'echelonlaw14.WaveOrders': WHATEVER THE INPUT: true; the input reads as it did. -/
def waveOrdersSpec : ChangeSpec := { name := "waveOrders", fn := fun _ => fun
  | [d] => { results := [.lit (.bool true)], args := [d] }
  | _ => none }
def waveOrdersRow : OpenClaim := { program := "ytkeadpichlgagaa", sum := "29544d5bcda6a590eab5d96af8290405c1933b2f5824d2f7d2f2d28bb2dcd5e7", func := "echelon/echelonlaw14.WaveOrders", spec := "waveOrders", unfollowed := true, recurses := true, apart := false }
def WaveOrdersSaid : Prop := waveOrdersRow.holds Try.pinned (OpenSpec.ofChange waveOrdersSpec)

/-- ITS FALSE NEIGHBOUR: 'it returns false'. Refute it at one input. -/
def waveOrdersWrong : ChangeSpec := { name := "waveOrders", fn := fun _ => fun
  | [d] => { results := [.lit (.bool false)], args := [d] }
  | _ => none }
def WaveOrdersWrongFalsely : Prop := waveOrdersRow.holds Try.pinned (OpenSpec.ofChange waveOrdersWrong)

/-- 'echelonlaw14.WaveReady': WHATEVER THE INPUT: true; the input reads as it did. -/
def waveReadySpec : ChangeSpec := { name := "waveReady", fn := fun _ => fun
  | [d1, d2, d3] => { results := [.lit (.bool true)], args := [d1, d2, d3] }
  | _ => none }
def waveReadyRow : OpenClaim := { program := "ytkeadpichlgagaa", sum := "29544d5bcda6a590eab5d96af8290405c1933b2f5824d2f7d2f2d28bb2dcd5e7", func := "echelon/echelonlaw14.WaveReady", spec := "waveReady", unfollowed := true, recurses := true, apart := false }
def WaveReadySaid : Prop := waveReadyRow.holds Try.pinned (OpenSpec.ofChange waveReadySpec)

/-- ITS FALSE NEIGHBOUR: 'it returns false'. Refute it at one input. -/
def waveReadyWrong : ChangeSpec := { name := "waveReady", fn := fun _ => fun
  | [d1, d2, d3] => { results := [.lit (.bool false)], args := [d1, d2, d3] }
  | _ => none }
def WaveReadyWrongFalsely : Prop := waveReadyRow.holds Try.pinned (OpenSpec.ofChange waveReadyWrong)

/-- 'echelonlaw14.WaveTurns': WHATEVER THE INPUT: true; the input reads as it did. -/
def waveTurnsSpec : ChangeSpec := { name := "waveTurns", fn := fun _ => fun
  | [d1, d2] => { results := [.lit (.bool true)], args := [d1, d2] }
  | _ => none }
def waveTurnsRow : OpenClaim := { program := "ytkeadpichlgagaa", sum := "29544d5bcda6a590eab5d96af8290405c1933b2f5824d2f7d2f2d28bb2dcd5e7", func := "echelon/echelonlaw14.WaveTurns", spec := "waveTurns", unfollowed := true, recurses := true, apart := false }
def WaveTurnsSaid : Prop := waveTurnsRow.holds Try.pinned (OpenSpec.ofChange waveTurnsSpec)

/-- ITS FALSE NEIGHBOUR: 'it returns false'. Refute it at one input. -/
def waveTurnsWrong : ChangeSpec := { name := "waveTurns", fn := fun _ => fun
  | [d1, d2] => { results := [.lit (.bool false)], args := [d1, d2] }
  | _ => none }
def WaveTurnsWrongFalsely : Prop := waveTurnsRow.holds Try.pinned (OpenSpec.ofChange waveTurnsWrong)

/-- 'echelonlaw14.WaveBehind': WHATEVER THE INPUT: true; the input reads as it did. -/
def waveBehindSpec : ChangeSpec := { name := "waveBehind", fn := fun _ => fun
  | [d1, d2] => { results := [.lit (.bool true)], args := [d1, d2] }
  | _ => none }
def waveBehindRow : OpenClaim := { program := "ytkeadpichlgagaa", sum := "29544d5bcda6a590eab5d96af8290405c1933b2f5824d2f7d2f2d28bb2dcd5e7", func := "echelon/echelonlaw14.WaveBehind", spec := "waveBehind", unfollowed := true, recurses := true, apart := false }
def WaveBehindSaid : Prop := waveBehindRow.holds Try.pinned (OpenSpec.ofChange waveBehindSpec)

/-- ITS FALSE NEIGHBOUR: 'it returns false'. Refute it at one input. -/
def waveBehindWrong : ChangeSpec := { name := "waveBehind", fn := fun _ => fun
  | [d1, d2] => { results := [.lit (.bool false)], args := [d1, d2] }
  | _ => none }
def WaveBehindWrongFalsely : Prop := waveBehindRow.holds Try.pinned (OpenSpec.ofChange waveBehindWrong)

/-- 'echelonlaw15.PlanChecks': WHATEVER THE INPUT: true; the input reads as it did. -/
def planChecksSpec : ChangeSpec := { name := "planChecks", fn := fun _ => fun
  | [d1, d2, d3] => { results := [.lit (.bool true)], args := [d1, d2, d3] }
  | _ => none }
def planChecksRow : OpenClaim := { program := "ytkeadpichlgagaa", sum := "29544d5bcda6a590eab5d96af8290405c1933b2f5824d2f7d2f2d28bb2dcd5e7", func := "echelon/echelonlaw15.PlanChecks", spec := "planChecks", unfollowed := true, recurses := true, apart := false }
def PlanChecksSaid : Prop := planChecksRow.holds Try.pinned (OpenSpec.ofChange planChecksSpec)

/-- ITS FALSE NEIGHBOUR: 'it returns false'. Refute it at one input. -/
def planChecksWrong : ChangeSpec := { name := "planChecks", fn := fun _ => fun
  | [d1, d2, d3] => { results := [.lit (.bool false)], args := [d1, d2, d3] }
  | _ => none }
def PlanChecksWrongFalsely : Prop := planChecksRow.holds Try.pinned (OpenSpec.ofChange planChecksWrong)

/-- 'echelonlaw15.PlanMany': WHATEVER THE INPUT: true; the input reads as it did. -/
def planManySpec : ChangeSpec := { name := "planMany", fn := fun _ => fun
  | [d1, d2, d3] => { results := [.lit (.bool true)], args := [d1, d2, d3] }
  | _ => none }
def planManyRow : OpenClaim := { program := "ytkeadpichlgagaa", sum := "29544d5bcda6a590eab5d96af8290405c1933b2f5824d2f7d2f2d28bb2dcd5e7", func := "echelon/echelonlaw15.PlanMany", spec := "planMany", unfollowed := true, recurses := true, apart := false }
def PlanManySaid : Prop := planManyRow.holds Try.pinned (OpenSpec.ofChange planManySpec)

/-- ITS FALSE NEIGHBOUR: 'it returns false'. Refute it at one input. -/
def planManyWrong : ChangeSpec := { name := "planMany", fn := fun _ => fun
  | [d1, d2, d3] => { results := [.lit (.bool false)], args := [d1, d2, d3] }
  | _ => none }
def PlanManyWrongFalsely : Prop := planManyRow.holds Try.pinned (OpenSpec.ofChange planManyWrong)

/-- 'echelonlaw15.PlanTurns': WHATEVER THE INPUT: true; the input reads as it did. -/
def planTurnsSpec : ChangeSpec := { name := "planTurns", fn := fun _ => fun
  | [d1, d2, d3] => { results := [.lit (.bool true)], args := [d1, d2, d3] }
  | _ => none }
def planTurnsRow : OpenClaim := { program := "ytkeadpichlgagaa", sum := "29544d5bcda6a590eab5d96af8290405c1933b2f5824d2f7d2f2d28bb2dcd5e7", func := "echelon/echelonlaw15.PlanTurns", spec := "planTurns", unfollowed := true, recurses := true, apart := false }
def PlanTurnsSaid : Prop := planTurnsRow.holds Try.pinned (OpenSpec.ofChange planTurnsSpec)

/-- ITS FALSE NEIGHBOUR: 'it returns false'. Refute it at one input. -/
def planTurnsWrong : ChangeSpec := { name := "planTurns", fn := fun _ => fun
  | [d1, d2, d3] => { results := [.lit (.bool false)], args := [d1, d2, d3] }
  | _ => none }
def PlanTurnsWrongFalsely : Prop := planTurnsRow.holds Try.pinned (OpenSpec.ofChange planTurnsWrong)

/-- 'echelonlaw15.PlanBack': WHATEVER THE INPUT: true; the input reads as it did. -/
def planBackSpec : ChangeSpec := { name := "planBack", fn := fun _ => fun
  | [d1, d2] => { results := [.lit (.bool true)], args := [d1, d2] }
  | _ => none }
def planBackRow : OpenClaim := { program := "ytkeadpichlgagaa", sum := "29544d5bcda6a590eab5d96af8290405c1933b2f5824d2f7d2f2d28bb2dcd5e7", func := "echelon/echelonlaw15.PlanBack", spec := "planBack", unfollowed := true, recurses := true, apart := false }
def PlanBackSaid : Prop := planBackRow.holds Try.pinned (OpenSpec.ofChange planBackSpec)

/-- ITS FALSE NEIGHBOUR: 'it returns false'. Refute it at one input. -/
def planBackWrong : ChangeSpec := { name := "planBack", fn := fun _ => fun
  | [d1, d2] => { results := [.lit (.bool false)], args := [d1, d2] }
  | _ => none }
def PlanBackWrongFalsely : Prop := planBackRow.holds Try.pinned (OpenSpec.ofChange planBackWrong)

/-- 'echelonlaw08.MembersRights': WHATEVER THE INPUT: true; the input reads as it did. -/
def membersRightsSpec : ChangeSpec := { name := "membersRights", fn := fun _ => fun
  | [d1, d2, d3] => { results := [.lit (.bool true)], args := [d1, d2, d3] }
  | _ => none }
def membersRightsRow : OpenClaim := { program := "ytkeadpichlgagaa", sum := "29544d5bcda6a590eab5d96af8290405c1933b2f5824d2f7d2f2d28bb2dcd5e7", func := "echelon/echelonlaw08.MembersRights", spec := "membersRights", inPlace := ["slices.overlaps[int]"], unfollowed := true, recurses := true, apart := false }
def MembersRightsSaid : Prop := membersRightsRow.holds Try.pinned (OpenSpec.ofChange membersRightsSpec)

/-- ITS FALSE NEIGHBOUR: 'it returns false'. Refute it at one input. -/
def membersRightsWrong : ChangeSpec := { name := "membersRights", fn := fun _ => fun
  | [d1, d2, d3] => { results := [.lit (.bool false)], args := [d1, d2, d3] }
  | _ => none }
def MembersRightsWrongFalsely : Prop := membersRightsRow.holds Try.pinned (OpenSpec.ofChange membersRightsWrong)

/-- 'echelonlaw08.MembersNext': WHATEVER THE INPUT: true; the input reads as it did. -/
def membersNextSpec : ChangeSpec := { name := "membersNext", fn := fun _ => fun
  | [d1, d2] => { results := [.lit (.bool true)], args := [d1, d2] }
  | _ => none }
def membersNextRow : OpenClaim := { program := "ytkeadpichlgagaa", sum := "29544d5bcda6a590eab5d96af8290405c1933b2f5824d2f7d2f2d28bb2dcd5e7", func := "echelon/echelonlaw08.MembersNext", spec := "membersNext", inPlace := ["slices.overlaps[int]"], unfollowed := true, recurses := true, apart := false }
def MembersNextSaid : Prop := membersNextRow.holds Try.pinned (OpenSpec.ofChange membersNextSpec)

/-- ITS FALSE NEIGHBOUR: 'it returns false'. Refute it at one input. -/
def membersNextWrong : ChangeSpec := { name := "membersNext", fn := fun _ => fun
  | [d1, d2] => { results := [.lit (.bool false)], args := [d1, d2] }
  | _ => none }
def MembersNextWrongFalsely : Prop := membersNextRow.holds Try.pinned (OpenSpec.ofChange membersNextWrong)

/-- 'echelonlaw08.MembersMeet': WHATEVER THE INPUT: true; the input reads as it did. -/
def membersMeetSpec : ChangeSpec := { name := "membersMeet", fn := fun _ => fun
  | [d1, d2, d3] => { results := [.lit (.bool true)], args := [d1, d2, d3] }
  | _ => none }
def membersMeetRow : OpenClaim := { program := "ytkeadpichlgagaa", sum := "29544d5bcda6a590eab5d96af8290405c1933b2f5824d2f7d2f2d28bb2dcd5e7", func := "echelon/echelonlaw08.MembersMeet", spec := "membersMeet", inPlace := ["slices.overlaps[int]"], unfollowed := true, recurses := true, apart := false }
def MembersMeetSaid : Prop := membersMeetRow.holds Try.pinned (OpenSpec.ofChange membersMeetSpec)

/-- ITS FALSE NEIGHBOUR: 'it returns false'. Refute it at one input. -/
def membersMeetWrong : ChangeSpec := { name := "membersMeet", fn := fun _ => fun
  | [d1, d2, d3] => { results := [.lit (.bool false)], args := [d1, d2, d3] }
  | _ => none }
def MembersMeetWrongFalsely : Prop := membersMeetRow.holds Try.pinned (OpenSpec.ofChange membersMeetWrong)

/-- 'echelonlaw08.MembersWalk': WHATEVER THE INPUT: true; the input reads as it did. -/
def membersWalkSpec : ChangeSpec := { name := "membersWalk", fn := fun _ => fun
  | [d1, d2] => { results := [.lit (.bool true)], args := [d1, d2] }
  | _ => none }
def membersWalkRow : OpenClaim := { program := "ytkeadpichlgagaa", sum := "29544d5bcda6a590eab5d96af8290405c1933b2f5824d2f7d2f2d28bb2dcd5e7", func := "echelon/echelonlaw08.MembersWalk", spec := "membersWalk", inPlace := ["slices.overlaps[int]"], unfollowed := true, recurses := true, apart := false }
def MembersWalkSaid : Prop := membersWalkRow.holds Try.pinned (OpenSpec.ofChange membersWalkSpec)

/-- ITS FALSE NEIGHBOUR: 'it returns false'. Refute it at one input. -/
def membersWalkWrong : ChangeSpec := { name := "membersWalk", fn := fun _ => fun
  | [d1, d2] => { results := [.lit (.bool false)], args := [d1, d2] }
  | _ => none }
def MembersWalkWrongFalsely : Prop := membersWalkRow.holds Try.pinned (OpenSpec.ofChange membersWalkWrong)

/-- 'echelonlaw08.MembersBack': WHATEVER THE INPUT: true; the input reads as it did. -/
def membersBackSpec : ChangeSpec := { name := "membersBack", fn := fun _ => fun
  | [d1, d2] => { results := [.lit (.bool true)], args := [d1, d2] }
  | _ => none }
def membersBackRow : OpenClaim := { program := "ytkeadpichlgagaa", sum := "29544d5bcda6a590eab5d96af8290405c1933b2f5824d2f7d2f2d28bb2dcd5e7", func := "echelon/echelonlaw08.MembersBack", spec := "membersBack", inPlace := ["slices.overlaps[int]"], unfollowed := true, recurses := true, apart := false }
def MembersBackSaid : Prop := membersBackRow.holds Try.pinned (OpenSpec.ofChange membersBackSpec)

/-- ITS FALSE NEIGHBOUR: 'it returns false'. Refute it at one input. -/
def membersBackWrong : ChangeSpec := { name := "membersBack", fn := fun _ => fun
  | [d1, d2] => { results := [.lit (.bool false)], args := [d1, d2] }
  | _ => none }
def MembersBackWrongFalsely : Prop := membersBackRow.holds Try.pinned (OpenSpec.ofChange membersBackWrong)

/- THE SECOND FORM. 'bulk': how many values and letters a reading holds, each counted each time it is reached (what is shared counts as often as it is met; a slice's spare places count too). A statement '..UptoSaid' is the law's where the arguments, and the package variables that the reading takes, are together of bulk at most 1048576: NARROWER than '..Said'. Prove '..Said' where nothing that the law and all that it calls make is longer than what came in: it says more and counts as full. Else prove '..UptoSaid'. A law counts once. -/
mutual
def uptoBulk {H : Type} : DataW H → Nat
  | .lit (.string bytes) => bytes.length + 1
  | .lit _ => 1
  | .nil => 1
  | .ptr d => uptoBulk d + 1
  | .slice elems spare => uptoBulkAll elems + uptoBulkAll spare + 1
  | .agg parts => uptoBulkAll parts + 1
  | .iface _ d => uptoBulk d + 1
  | .map entries => uptoBulkEntries entries + 1
  | .held _ => 1
def uptoBulkAll {H : Type} : List (DataW H) → Nat
  | [] => 0
  | d :: r => uptoBulk d + uptoBulkAll r
def uptoBulkEntries {H : Type} : List (Lit × DataW H) → Nat
  | [] => 0
  | x :: r => uptoBulkEntry x + uptoBulkEntries r
def uptoBulkEntry {H : Type} : Lit × DataW H → Nat
  | (.string bytes, d) => bytes.length + uptoBulk d + 1
  | (_, d) => uptoBulk d + 1
 end
def uptoSmall : (H : Type) → List (DataW H) → Bool := fun _ ds => decide (uptoBulkAll ds ≤ 1048576)
def OpenSpec.upto (s : _root_.Go.ChangeSpec) : _root_.Go.OpenSpec := { _root_.Go.OpenSpec.ofChange s with cond := some uptoSmall }

/-- 'echelonlaw14.WaveOrders', WHERE WHAT IT READS IS OF BULK AT MOST 1048576: true; the input reads as it did. -/
def waveOrdersUptoRow : OpenClaim := { program := "ytkeadpichlgagaa", sum := "29544d5bcda6a590eab5d96af8290405c1933b2f5824d2f7d2f2d28bb2dcd5e7", func := "echelon/echelonlaw14.WaveOrders", spec := "waveOrders", unfollowed := true, recurses := true, apart := false, narrowed := true }
def WaveOrdersUptoSaid : Prop := waveOrdersUptoRow.holds Try.pinned (OpenSpec.upto waveOrdersSpec)

/-- 'echelonlaw14.WaveReady', WHERE WHAT IT READS IS OF BULK AT MOST 1048576: true; the input reads as it did. -/
def waveReadyUptoRow : OpenClaim := { program := "ytkeadpichlgagaa", sum := "29544d5bcda6a590eab5d96af8290405c1933b2f5824d2f7d2f2d28bb2dcd5e7", func := "echelon/echelonlaw14.WaveReady", spec := "waveReady", unfollowed := true, recurses := true, apart := false, narrowed := true }
def WaveReadyUptoSaid : Prop := waveReadyUptoRow.holds Try.pinned (OpenSpec.upto waveReadySpec)

/-- 'echelonlaw14.WaveTurns', WHERE WHAT IT READS IS OF BULK AT MOST 1048576: true; the input reads as it did. -/
def waveTurnsUptoRow : OpenClaim := { program := "ytkeadpichlgagaa", sum := "29544d5bcda6a590eab5d96af8290405c1933b2f5824d2f7d2f2d28bb2dcd5e7", func := "echelon/echelonlaw14.WaveTurns", spec := "waveTurns", unfollowed := true, recurses := true, apart := false, narrowed := true }
def WaveTurnsUptoSaid : Prop := waveTurnsUptoRow.holds Try.pinned (OpenSpec.upto waveTurnsSpec)

/-- 'echelonlaw14.WaveBehind', WHERE WHAT IT READS IS OF BULK AT MOST 1048576: true; the input reads as it did. -/
def waveBehindUptoRow : OpenClaim := { program := "ytkeadpichlgagaa", sum := "29544d5bcda6a590eab5d96af8290405c1933b2f5824d2f7d2f2d28bb2dcd5e7", func := "echelon/echelonlaw14.WaveBehind", spec := "waveBehind", unfollowed := true, recurses := true, apart := false, narrowed := true }
def WaveBehindUptoSaid : Prop := waveBehindUptoRow.holds Try.pinned (OpenSpec.upto waveBehindSpec)

/-- 'echelonlaw15.PlanChecks', WHERE WHAT IT READS IS OF BULK AT MOST 1048576: true; the input reads as it did. -/
def planChecksUptoRow : OpenClaim := { program := "ytkeadpichlgagaa", sum := "29544d5bcda6a590eab5d96af8290405c1933b2f5824d2f7d2f2d28bb2dcd5e7", func := "echelon/echelonlaw15.PlanChecks", spec := "planChecks", unfollowed := true, recurses := true, apart := false, narrowed := true }
def PlanChecksUptoSaid : Prop := planChecksUptoRow.holds Try.pinned (OpenSpec.upto planChecksSpec)

/-- 'echelonlaw15.PlanMany', WHERE WHAT IT READS IS OF BULK AT MOST 1048576: true; the input reads as it did. -/
def planManyUptoRow : OpenClaim := { program := "ytkeadpichlgagaa", sum := "29544d5bcda6a590eab5d96af8290405c1933b2f5824d2f7d2f2d28bb2dcd5e7", func := "echelon/echelonlaw15.PlanMany", spec := "planMany", unfollowed := true, recurses := true, apart := false, narrowed := true }
def PlanManyUptoSaid : Prop := planManyUptoRow.holds Try.pinned (OpenSpec.upto planManySpec)

/-- 'echelonlaw15.PlanTurns', WHERE WHAT IT READS IS OF BULK AT MOST 1048576: true; the input reads as it did. -/
def planTurnsUptoRow : OpenClaim := { program := "ytkeadpichlgagaa", sum := "29544d5bcda6a590eab5d96af8290405c1933b2f5824d2f7d2f2d28bb2dcd5e7", func := "echelon/echelonlaw15.PlanTurns", spec := "planTurns", unfollowed := true, recurses := true, apart := false, narrowed := true }
def PlanTurnsUptoSaid : Prop := planTurnsUptoRow.holds Try.pinned (OpenSpec.upto planTurnsSpec)

/-- 'echelonlaw15.PlanBack', WHERE WHAT IT READS IS OF BULK AT MOST 1048576: true; the input reads as it did. -/
def planBackUptoRow : OpenClaim := { program := "ytkeadpichlgagaa", sum := "29544d5bcda6a590eab5d96af8290405c1933b2f5824d2f7d2f2d28bb2dcd5e7", func := "echelon/echelonlaw15.PlanBack", spec := "planBack", unfollowed := true, recurses := true, apart := false, narrowed := true }
def PlanBackUptoSaid : Prop := planBackUptoRow.holds Try.pinned (OpenSpec.upto planBackSpec)

/-- 'echelonlaw08.MembersRights', WHERE WHAT IT READS IS OF BULK AT MOST 1048576: true; the input reads as it did. -/
def membersRightsUptoRow : OpenClaim := { program := "ytkeadpichlgagaa", sum := "29544d5bcda6a590eab5d96af8290405c1933b2f5824d2f7d2f2d28bb2dcd5e7", func := "echelon/echelonlaw08.MembersRights", spec := "membersRights", inPlace := ["slices.overlaps[int]"], unfollowed := true, recurses := true, apart := false, narrowed := true }
def MembersRightsUptoSaid : Prop := membersRightsUptoRow.holds Try.pinned (OpenSpec.upto membersRightsSpec)

/-- 'echelonlaw08.MembersNext', WHERE WHAT IT READS IS OF BULK AT MOST 1048576: true; the input reads as it did. -/
def membersNextUptoRow : OpenClaim := { program := "ytkeadpichlgagaa", sum := "29544d5bcda6a590eab5d96af8290405c1933b2f5824d2f7d2f2d28bb2dcd5e7", func := "echelon/echelonlaw08.MembersNext", spec := "membersNext", inPlace := ["slices.overlaps[int]"], unfollowed := true, recurses := true, apart := false, narrowed := true }
def MembersNextUptoSaid : Prop := membersNextUptoRow.holds Try.pinned (OpenSpec.upto membersNextSpec)

/-- 'echelonlaw08.MembersMeet', WHERE WHAT IT READS IS OF BULK AT MOST 1048576: true; the input reads as it did. -/
def membersMeetUptoRow : OpenClaim := { program := "ytkeadpichlgagaa", sum := "29544d5bcda6a590eab5d96af8290405c1933b2f5824d2f7d2f2d28bb2dcd5e7", func := "echelon/echelonlaw08.MembersMeet", spec := "membersMeet", inPlace := ["slices.overlaps[int]"], unfollowed := true, recurses := true, apart := false, narrowed := true }
def MembersMeetUptoSaid : Prop := membersMeetUptoRow.holds Try.pinned (OpenSpec.upto membersMeetSpec)

/-- 'echelonlaw08.MembersWalk', WHERE WHAT IT READS IS OF BULK AT MOST 1048576: true; the input reads as it did. -/
def membersWalkUptoRow : OpenClaim := { program := "ytkeadpichlgagaa", sum := "29544d5bcda6a590eab5d96af8290405c1933b2f5824d2f7d2f2d28bb2dcd5e7", func := "echelon/echelonlaw08.MembersWalk", spec := "membersWalk", inPlace := ["slices.overlaps[int]"], unfollowed := true, recurses := true, apart := false, narrowed := true }
def MembersWalkUptoSaid : Prop := membersWalkUptoRow.holds Try.pinned (OpenSpec.upto membersWalkSpec)

/-- 'echelonlaw08.MembersBack', WHERE WHAT IT READS IS OF BULK AT MOST 1048576: true; the input reads as it did. -/
def membersBackUptoRow : OpenClaim := { program := "ytkeadpichlgagaa", sum := "29544d5bcda6a590eab5d96af8290405c1933b2f5824d2f7d2f2d28bb2dcd5e7", func := "echelon/echelonlaw08.MembersBack", spec := "membersBack", inPlace := ["slices.overlaps[int]"], unfollowed := true, recurses := true, apart := false, narrowed := true }
def MembersBackUptoSaid : Prop := membersBackUptoRow.holds Try.pinned (OpenSpec.upto membersBackSpec)

end Rows
end Go.Proofs.Ytkeadpichlgagaa
