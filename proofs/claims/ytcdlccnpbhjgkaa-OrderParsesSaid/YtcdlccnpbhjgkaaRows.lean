/-
  NARROWER THAN 'FOR EVERY INPUT', by the rows' own cells (each row's printed sentence says how): MouldPuts: loops · MouldApart: loops.
  DERIVED. THE GIVEN ROWS OF THIS SEAT. 11 by the template 'for every input the law returns true; each argument reads behind the call as it read before'; 0 by the template 'total and deterministic' (their statements: YtcdlccnpbhjgkaaTotals.lean).
  GIVEN WITH THE SEED: the statements are not yours to turn. If you find one false, say at which input.
  Laid BY PROGRAM, IN A SANDBOX (cutbox-rows.mjs): the forced cells as the released guide's own fill.sh prints them over the translation 97d975d12986ce1e… (all of the seat's roots in one cut). By AI agents, Wed Nov 11 2026. No macro, syntax, notation, axiom, sorry.
-/
import Derived.Test.YtcdlccnpbhjgkaaChecked
import GoSem.Claim
import GoSem.ClaimJoined
import GoSem.ClaimMapViews
import Derived.JoinedTies
import Derived.KernelRfl
namespace Go.Proofs.Ytcdlccnpbhjgkaa
/- THE CELL 'sum', in the pinned program and in every row, IS THE sha256 OF THE DUMP (.gsa) THAT YtcdlccnpbhjgkaaProg.lean LOADS. Nothing in Lean hashes anything: it is a label: what it is worth is what the hold of that sum in a sandbox is worth. -/
noncomputable def Try.pinned : Pinned := { name := "ytcdlccnpbhjgkaa", sum := "97d975d12986ce1e16b1937d2edf13aed53d3a1341102863ef27fa1956bb0cc6", checked := Try.checked }
namespace Rows
def none {H : Type} : Left H := { results := [], args := [] }

/-- 'echelonlaw01.MouldShapes': WHATEVER THE INPUT: true; the input reads as it did. -/
def mouldShapesSpec : ChangeSpec := { name := "mouldShapes", fn := fun _ => fun
  | [d1, d2] => { results := [.lit (.bool true)], args := [d1, d2] }
  | _ => none }
def mouldShapesRow : OpenClaim := { program := "ytcdlccnpbhjgkaa", sum := "97d975d12986ce1e16b1937d2edf13aed53d3a1341102863ef27fa1956bb0cc6", func := "echelon/echelonlaw01.MouldShapes", spec := "mouldShapes", unfollowed := true, recurses := true, apart := false }
def MouldShapesSaid : Prop := mouldShapesRow.holds Try.pinned (OpenSpec.ofChange mouldShapesSpec)

/-- ITS FALSE NEIGHBOUR: 'it returns false'. Refute it at one input. -/
def mouldShapesWrong : ChangeSpec := { name := "mouldShapes", fn := fun _ => fun
  | [d1, d2] => { results := [.lit (.bool false)], args := [d1, d2] }
  | _ => none }
def MouldShapesWrongFalsely : Prop := mouldShapesRow.holds Try.pinned (OpenSpec.ofChange mouldShapesWrong)

/-- 'echelonlaw01.MouldNumbers': WHATEVER THE INPUT: true; the input reads as it did. -/
def mouldNumbersSpec : ChangeSpec := { name := "mouldNumbers", fn := fun _ => fun
  | [d1, d2] => { results := [.lit (.bool true)], args := [d1, d2] }
  | _ => none }
def mouldNumbersRow : OpenClaim := { program := "ytcdlccnpbhjgkaa", sum := "97d975d12986ce1e16b1937d2edf13aed53d3a1341102863ef27fa1956bb0cc6", func := "echelon/echelonlaw01.MouldNumbers", spec := "mouldNumbers", unfollowed := true, recurses := true, apart := false }
def MouldNumbersSaid : Prop := mouldNumbersRow.holds Try.pinned (OpenSpec.ofChange mouldNumbersSpec)

/-- ITS FALSE NEIGHBOUR: 'it returns false'. Refute it at one input. -/
def mouldNumbersWrong : ChangeSpec := { name := "mouldNumbers", fn := fun _ => fun
  | [d1, d2] => { results := [.lit (.bool false)], args := [d1, d2] }
  | _ => none }
def MouldNumbersWrongFalsely : Prop := mouldNumbersRow.holds Try.pinned (OpenSpec.ofChange mouldNumbersWrong)

/-- 'echelonlaw01.MouldPuts': WHATEVER THE INPUT: true; the input reads as it did. -/
def mouldPutsSpec : ChangeSpec := { name := "mouldPuts", fn := fun _ => fun
  | [d1, d2] => { results := [.lit (.bool true)], args := [d1, d2] }
  | _ => none }
def mouldPutsRow : OpenClaim := { program := "ytcdlccnpbhjgkaa", sum := "97d975d12986ce1e16b1937d2edf13aed53d3a1341102863ef27fa1956bb0cc6", func := "echelon/echelonlaw01.MouldPuts", spec := "mouldPuts", unfollowed := true, recurses := true, loops := true, apart := false }
def MouldPutsSaid : Prop := mouldPutsRow.holds Try.pinned (OpenSpec.ofChange mouldPutsSpec)

/-- ITS FALSE NEIGHBOUR: 'it returns false'. Refute it at one input. -/
def mouldPutsWrong : ChangeSpec := { name := "mouldPuts", fn := fun _ => fun
  | [d1, d2] => { results := [.lit (.bool false)], args := [d1, d2] }
  | _ => none }
def MouldPutsWrongFalsely : Prop := mouldPutsRow.holds Try.pinned (OpenSpec.ofChange mouldPutsWrong)

/-- 'echelonlaw01.MouldApart': WHATEVER THE INPUT: true; the input reads as it did. -/
def mouldApartSpec : ChangeSpec := { name := "mouldApart", fn := fun _ => fun
  | [d1, d2, d3] => { results := [.lit (.bool true)], args := [d1, d2, d3] }
  | _ => none }
def mouldApartRow : OpenClaim := { program := "ytcdlccnpbhjgkaa", sum := "97d975d12986ce1e16b1937d2edf13aed53d3a1341102863ef27fa1956bb0cc6", func := "echelon/echelonlaw01.MouldApart", spec := "mouldApart", unfollowed := true, recurses := true, loops := true, apart := false }
def MouldApartSaid : Prop := mouldApartRow.holds Try.pinned (OpenSpec.ofChange mouldApartSpec)

/-- ITS FALSE NEIGHBOUR: 'it returns false'. Refute it at one input. -/
def mouldApartWrong : ChangeSpec := { name := "mouldApart", fn := fun _ => fun
  | [d1, d2, d3] => { results := [.lit (.bool false)], args := [d1, d2, d3] }
  | _ => none }
def MouldApartWrongFalsely : Prop := mouldApartRow.holds Try.pinned (OpenSpec.ofChange mouldApartWrong)

/-- 'echelonlaw10.TimerDue': WHATEVER THE INPUT: true; the input reads as it did. -/
def timerDueSpec : ChangeSpec := { name := "timerDue", fn := fun _ => fun
  | [d1, d2] => { results := [.lit (.bool true)], args := [d1, d2] }
  | _ => none }
def timerDueRow : OpenClaim := { program := "ytcdlccnpbhjgkaa", sum := "97d975d12986ce1e16b1937d2edf13aed53d3a1341102863ef27fa1956bb0cc6", func := "echelon/echelonlaw10.TimerDue", spec := "timerDue", unfollowed := true, recurses := true, apart := false }
def TimerDueSaid : Prop := timerDueRow.holds Try.pinned (OpenSpec.ofChange timerDueSpec)

/-- ITS FALSE NEIGHBOUR: 'it returns false'. Refute it at one input. -/
def timerDueWrong : ChangeSpec := { name := "timerDue", fn := fun _ => fun
  | [d1, d2] => { results := [.lit (.bool false)], args := [d1, d2] }
  | _ => none }
def TimerDueWrongFalsely : Prop := timerDueRow.holds Try.pinned (OpenSpec.ofChange timerDueWrong)

/-- 'echelonlaw10.TimerFires': WHATEVER THE INPUT: true; the input reads as it did. -/
def timerFiresSpec : ChangeSpec := { name := "timerFires", fn := fun _ => fun
  | [d1, d2, d3] => { results := [.lit (.bool true)], args := [d1, d2, d3] }
  | _ => none }
def timerFiresRow : OpenClaim := { program := "ytcdlccnpbhjgkaa", sum := "97d975d12986ce1e16b1937d2edf13aed53d3a1341102863ef27fa1956bb0cc6", func := "echelon/echelonlaw10.TimerFires", spec := "timerFires", unfollowed := true, recurses := true, apart := false }
def TimerFiresSaid : Prop := timerFiresRow.holds Try.pinned (OpenSpec.ofChange timerFiresSpec)

/-- ITS FALSE NEIGHBOUR: 'it returns false'. Refute it at one input. -/
def timerFiresWrong : ChangeSpec := { name := "timerFires", fn := fun _ => fun
  | [d1, d2, d3] => { results := [.lit (.bool false)], args := [d1, d2, d3] }
  | _ => none }
def TimerFiresWrongFalsely : Prop := timerFiresRow.holds Try.pinned (OpenSpec.ofChange timerFiresWrong)

/-- 'echelonlaw10.TimerAlarms': WHATEVER THE INPUT: true; the input reads as it did. -/
def timerAlarmsSpec : ChangeSpec := { name := "timerAlarms", fn := fun _ => fun
  | [d] => { results := [.lit (.bool true)], args := [d] }
  | _ => none }
def timerAlarmsRow : OpenClaim := { program := "ytcdlccnpbhjgkaa", sum := "97d975d12986ce1e16b1937d2edf13aed53d3a1341102863ef27fa1956bb0cc6", func := "echelon/echelonlaw10.TimerAlarms", spec := "timerAlarms", unfollowed := true, recurses := true, apart := false }
def TimerAlarmsSaid : Prop := timerAlarmsRow.holds Try.pinned (OpenSpec.ofChange timerAlarmsSpec)

/-- ITS FALSE NEIGHBOUR: 'it returns false'. Refute it at one input. -/
def timerAlarmsWrong : ChangeSpec := { name := "timerAlarms", fn := fun _ => fun
  | [d] => { results := [.lit (.bool false)], args := [d] }
  | _ => none }
def TimerAlarmsWrongFalsely : Prop := timerAlarmsRow.holds Try.pinned (OpenSpec.ofChange timerAlarmsWrong)

/-- 'echelonlaw10.TimerSpans': WHATEVER THE INPUT: true; the input reads as it did. -/
def timerSpansSpec : ChangeSpec := { name := "timerSpans", fn := fun _ => fun
  | [d1, d2] => { results := [.lit (.bool true)], args := [d1, d2] }
  | _ => none }
def timerSpansRow : OpenClaim := { program := "ytcdlccnpbhjgkaa", sum := "97d975d12986ce1e16b1937d2edf13aed53d3a1341102863ef27fa1956bb0cc6", func := "echelon/echelonlaw10.TimerSpans", spec := "timerSpans", unfollowed := true, recurses := true, apart := false }
def TimerSpansSaid : Prop := timerSpansRow.holds Try.pinned (OpenSpec.ofChange timerSpansSpec)

/-- ITS FALSE NEIGHBOUR: 'it returns false'. Refute it at one input. -/
def timerSpansWrong : ChangeSpec := { name := "timerSpans", fn := fun _ => fun
  | [d1, d2] => { results := [.lit (.bool false)], args := [d1, d2] }
  | _ => none }
def TimerSpansWrongFalsely : Prop := timerSpansRow.holds Try.pinned (OpenSpec.ofChange timerSpansWrong)

/-- 'echelonlaw19.OrderFences': WHATEVER THE INPUT: true; the input reads as it did. -/
def orderFencesSpec : ChangeSpec := { name := "orderFences", fn := fun _ => fun
  | [d1, d2] => { results := [.lit (.bool true)], args := [d1, d2] }
  | _ => none }
def orderFencesRow : OpenClaim := { program := "ytcdlccnpbhjgkaa", sum := "97d975d12986ce1e16b1937d2edf13aed53d3a1341102863ef27fa1956bb0cc6", func := "echelon/echelonlaw19.OrderFences", spec := "orderFences", apart := false }
def OrderFencesSaid : Prop := orderFencesRow.holds Try.pinned (OpenSpec.ofChange orderFencesSpec)

/-- ITS FALSE NEIGHBOUR: 'it returns false'. Refute it at one input. -/
def orderFencesWrong : ChangeSpec := { name := "orderFences", fn := fun _ => fun
  | [d1, d2] => { results := [.lit (.bool false)], args := [d1, d2] }
  | _ => none }
def OrderFencesWrongFalsely : Prop := orderFencesRow.holds Try.pinned (OpenSpec.ofChange orderFencesWrong)

/-- 'echelonlaw19.OrderBytes': WHATEVER THE INPUT: true; the input reads as it did. -/
def orderBytesSpec : ChangeSpec := { name := "orderBytes", fn := fun _ => fun
  | [d1, d2] => { results := [.lit (.bool true)], args := [d1, d2] }
  | _ => none }
def orderBytesRow : OpenClaim := { program := "ytcdlccnpbhjgkaa", sum := "97d975d12986ce1e16b1937d2edf13aed53d3a1341102863ef27fa1956bb0cc6", func := "echelon/echelonlaw19.OrderBytes", spec := "orderBytes", unfollowed := true, recurses := true, apart := false }
def OrderBytesSaid : Prop := orderBytesRow.holds Try.pinned (OpenSpec.ofChange orderBytesSpec)

/-- ITS FALSE NEIGHBOUR: 'it returns false'. Refute it at one input. -/
def orderBytesWrong : ChangeSpec := { name := "orderBytes", fn := fun _ => fun
  | [d1, d2] => { results := [.lit (.bool false)], args := [d1, d2] }
  | _ => none }
def OrderBytesWrongFalsely : Prop := orderBytesRow.holds Try.pinned (OpenSpec.ofChange orderBytesWrong)

/-- 'echelonlaw19.OrderParses': WHATEVER THE INPUT: true; the input reads as it did. -/
def orderParsesSpec : ChangeSpec := { name := "orderParses", fn := fun _ => fun
  | [d] => { results := [.lit (.bool true)], args := [d] }
  | _ => none }
def orderParsesRow : OpenClaim := { program := "ytcdlccnpbhjgkaa", sum := "97d975d12986ce1e16b1937d2edf13aed53d3a1341102863ef27fa1956bb0cc6", func := "echelon/echelonlaw19.OrderParses", spec := "orderParses", unfollowed := true, recurses := true, apart := false }
def OrderParsesSaid : Prop := orderParsesRow.holds Try.pinned (OpenSpec.ofChange orderParsesSpec)

/-- ITS FALSE NEIGHBOUR: 'it returns false'. Refute it at one input. -/
def orderParsesWrong : ChangeSpec := { name := "orderParses", fn := fun _ => fun
  | [d] => { results := [.lit (.bool false)], args := [d] }
  | _ => none }
def OrderParsesWrongFalsely : Prop := orderParsesRow.holds Try.pinned (OpenSpec.ofChange orderParsesWrong)

/- THE SECOND FORM. 'bulk': how many values and letters a reading holds, each counted each time it is reached (what is shared counts as often as it is met; a slice's spare places count too). A statement '..UptoSaid' is the law's where the arguments, and the package variables that the reading takes, are together of bulk at most 1048576: NARROWER than '..Said'. Prove '..Said' where nothing that the law and all that it calls make is longer than what came in: it says more and counts as full. Else prove '..UptoSaid'. A law counts once. -/
mutual
def uptoBulk {H : Type} : DataW H → Nat
  | .lit (.string bytes) => bytes.length + 1
  | .lit _ => 1
  | .nil => 1
  | .ptr d => uptoBulk d + 1
  | .slice elems spare => uptoBulkAll elems + uptoBulkAll spare + 1
  | .agg parts => uptoBulkAll parts + 1
  | .iface _ d => uptoBulk d + 1
  | .map entries => uptoBulkEntries entries + 1
  | .held _ => 1
def uptoBulkAll {H : Type} : List (DataW H) → Nat
  | [] => 0
  | d :: r => uptoBulk d + uptoBulkAll r
def uptoBulkEntries {H : Type} : List (Lit × DataW H) → Nat
  | [] => 0
  | x :: r => uptoBulkEntry x + uptoBulkEntries r
def uptoBulkEntry {H : Type} : Lit × DataW H → Nat
  | (.string bytes, d) => bytes.length + uptoBulk d + 1
  | (_, d) => uptoBulk d + 1
 end
def uptoSmall : (H : Type) → List (DataW H) → Bool := fun _ ds => decide (uptoBulkAll ds ≤ 1048576)
def OpenSpec.upto (s : _root_.Go.ChangeSpec) : _root_.Go.OpenSpec := { _root_.Go.OpenSpec.ofChange s with cond := some uptoSmall }

/-- 'echelonlaw01.MouldShapes', WHERE WHAT IT READS IS OF BULK AT MOST 1048576: true; the input reads as it did. -/
def mouldShapesUptoRow : OpenClaim := { program := "ytcdlccnpbhjgkaa", sum := "97d975d12986ce1e16b1937d2edf13aed53d3a1341102863ef27fa1956bb0cc6", func := "echelon/echelonlaw01.MouldShapes", spec := "mouldShapes", unfollowed := true, recurses := true, apart := false, narrowed := true }
def MouldShapesUptoSaid : Prop := mouldShapesUptoRow.holds Try.pinned (OpenSpec.upto mouldShapesSpec)

/-- 'echelonlaw01.MouldNumbers', WHERE WHAT IT READS IS OF BULK AT MOST 1048576: true; the input reads as it did. -/
def mouldNumbersUptoRow : OpenClaim := { program := "ytcdlccnpbhjgkaa", sum := "97d975d12986ce1e16b1937d2edf13aed53d3a1341102863ef27fa1956bb0cc6", func := "echelon/echelonlaw01.MouldNumbers", spec := "mouldNumbers", unfollowed := true, recurses := true, apart := false, narrowed := true }
def MouldNumbersUptoSaid : Prop := mouldNumbersUptoRow.holds Try.pinned (OpenSpec.upto mouldNumbersSpec)

/-- 'echelonlaw01.MouldPuts', WHERE WHAT IT READS IS OF BULK AT MOST 1048576: true; the input reads as it did. -/
def mouldPutsUptoRow : OpenClaim := { program := "ytcdlccnpbhjgkaa", sum := "97d975d12986ce1e16b1937d2edf13aed53d3a1341102863ef27fa1956bb0cc6", func := "echelon/echelonlaw01.MouldPuts", spec := "mouldPuts", unfollowed := true, recurses := true, loops := true, apart := false, narrowed := true }
def MouldPutsUptoSaid : Prop := mouldPutsUptoRow.holds Try.pinned (OpenSpec.upto mouldPutsSpec)

/-- 'echelonlaw01.MouldApart', WHERE WHAT IT READS IS OF BULK AT MOST 1048576: true; the input reads as it did. -/
def mouldApartUptoRow : OpenClaim := { program := "ytcdlccnpbhjgkaa", sum := "97d975d12986ce1e16b1937d2edf13aed53d3a1341102863ef27fa1956bb0cc6", func := "echelon/echelonlaw01.MouldApart", spec := "mouldApart", unfollowed := true, recurses := true, loops := true, apart := false, narrowed := true }
def MouldApartUptoSaid : Prop := mouldApartUptoRow.holds Try.pinned (OpenSpec.upto mouldApartSpec)

/-- 'echelonlaw10.TimerDue', WHERE WHAT IT READS IS OF BULK AT MOST 1048576: true; the input reads as it did. -/
def timerDueUptoRow : OpenClaim := { program := "ytcdlccnpbhjgkaa", sum := "97d975d12986ce1e16b1937d2edf13aed53d3a1341102863ef27fa1956bb0cc6", func := "echelon/echelonlaw10.TimerDue", spec := "timerDue", unfollowed := true, recurses := true, apart := false, narrowed := true }
def TimerDueUptoSaid : Prop := timerDueUptoRow.holds Try.pinned (OpenSpec.upto timerDueSpec)

/-- 'echelonlaw10.TimerFires', WHERE WHAT IT READS IS OF BULK AT MOST 1048576: true; the input reads as it did. -/
def timerFiresUptoRow : OpenClaim := { program := "ytcdlccnpbhjgkaa", sum := "97d975d12986ce1e16b1937d2edf13aed53d3a1341102863ef27fa1956bb0cc6", func := "echelon/echelonlaw10.TimerFires", spec := "timerFires", unfollowed := true, recurses := true, apart := false, narrowed := true }
def TimerFiresUptoSaid : Prop := timerFiresUptoRow.holds Try.pinned (OpenSpec.upto timerFiresSpec)

/-- 'echelonlaw10.TimerAlarms', WHERE WHAT IT READS IS OF BULK AT MOST 1048576: true; the input reads as it did. -/
def timerAlarmsUptoRow : OpenClaim := { program := "ytcdlccnpbhjgkaa", sum := "97d975d12986ce1e16b1937d2edf13aed53d3a1341102863ef27fa1956bb0cc6", func := "echelon/echelonlaw10.TimerAlarms", spec := "timerAlarms", unfollowed := true, recurses := true, apart := false, narrowed := true }
def TimerAlarmsUptoSaid : Prop := timerAlarmsUptoRow.holds Try.pinned (OpenSpec.upto timerAlarmsSpec)

/-- 'echelonlaw10.TimerSpans', WHERE WHAT IT READS IS OF BULK AT MOST 1048576: true; the input reads as it did. -/
def timerSpansUptoRow : OpenClaim := { program := "ytcdlccnpbhjgkaa", sum := "97d975d12986ce1e16b1937d2edf13aed53d3a1341102863ef27fa1956bb0cc6", func := "echelon/echelonlaw10.TimerSpans", spec := "timerSpans", unfollowed := true, recurses := true, apart := false, narrowed := true }
def TimerSpansUptoSaid : Prop := timerSpansUptoRow.holds Try.pinned (OpenSpec.upto timerSpansSpec)

/-- 'echelonlaw19.OrderFences', WHERE WHAT IT READS IS OF BULK AT MOST 1048576: true; the input reads as it did. -/
def orderFencesUptoRow : OpenClaim := { program := "ytcdlccnpbhjgkaa", sum := "97d975d12986ce1e16b1937d2edf13aed53d3a1341102863ef27fa1956bb0cc6", func := "echelon/echelonlaw19.OrderFences", spec := "orderFences", apart := false, narrowed := true }
def OrderFencesUptoSaid : Prop := orderFencesUptoRow.holds Try.pinned (OpenSpec.upto orderFencesSpec)

/-- 'echelonlaw19.OrderBytes', WHERE WHAT IT READS IS OF BULK AT MOST 1048576: true; the input reads as it did. -/
def orderBytesUptoRow : OpenClaim := { program := "ytcdlccnpbhjgkaa", sum := "97d975d12986ce1e16b1937d2edf13aed53d3a1341102863ef27fa1956bb0cc6", func := "echelon/echelonlaw19.OrderBytes", spec := "orderBytes", unfollowed := true, recurses := true, apart := false, narrowed := true }
def OrderBytesUptoSaid : Prop := orderBytesUptoRow.holds Try.pinned (OpenSpec.upto orderBytesSpec)

/-- 'echelonlaw19.OrderParses', WHERE WHAT IT READS IS OF BULK AT MOST 1048576: true; the input reads as it did. -/
def orderParsesUptoRow : OpenClaim := { program := "ytcdlccnpbhjgkaa", sum := "97d975d12986ce1e16b1937d2edf13aed53d3a1341102863ef27fa1956bb0cc6", func := "echelon/echelonlaw19.OrderParses", spec := "orderParses", unfollowed := true, recurses := true, apart := false, narrowed := true }
def OrderParsesUptoSaid : Prop := orderParsesUptoRow.holds Try.pinned (OpenSpec.upto orderParsesSpec)

end Rows
end Go.Proofs.Ytcdlccnpbhjgkaa
