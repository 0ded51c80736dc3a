/-
  No cell of these rows narrows 'for every input' (looked for: loops, veiled, ifaces, maps, wideKeys, modest, calm, conditions, laid).
  DERIVED. THE GIVEN ROWS OF THIS SEAT. 11 by the template 'for every input the law returns true; each argument reads behind the call as it read before'; 0 by the template 'total and deterministic' (their statements: YtnkpleggmiamdaaTotals.lean).
  GIVEN WITH THE SEED: the statements are not yours to turn. If you find one false, say at which input.
  Laid BY PROGRAM, IN A SANDBOX (cutbox-rows.mjs): the forced cells as the released guide's own fill.sh prints them over the translation 226e3f150e2f2d91… (all of the seat's roots in one cut). By AI agents, Wed Nov 11 2026. No macro, syntax, notation, axiom, sorry.
-/
import Derived.Test.YtnkpleggmiamdaaChecked
import GoSem.Claim
import GoSem.ClaimJoined
import GoSem.ClaimMapViews
import Derived.JoinedTies
import Derived.KernelRfl
namespace Go.Proofs.Ytnkpleggmiamdaa
/- THE CELL 'sum', in the pinned program and in every row, IS THE sha256 OF THE DUMP (.gsa) THAT YtnkpleggmiamdaaProg.lean LOADS. Nothing in Lean hashes anything: it is a label: what it is worth is what the hold of that sum in a sandbox is worth. -/
noncomputable def Try.pinned : Pinned := { name := "ytnkpleggmiamdaa", sum := "226e3f150e2f2d9151a73222cf3f44290d0616931c4d34c88743648fcd31cf5f", checked := Try.checked }
namespace Rows
def none {H : Type} : Left H := { results := [], args := [] }

/-- 'echelonlaw13.SessionOnce': WHATEVER THE INPUT: true; the input reads as it did. -/
def sessionOnceSpec : ChangeSpec := { name := "sessionOnce", fn := fun _ => fun
  | [d1, d2] => { results := [.lit (.bool true)], args := [d1, d2] }
  | _ => none }
def sessionOnceRow : OpenClaim := { program := "ytnkpleggmiamdaa", sum := "226e3f150e2f2d9151a73222cf3f44290d0616931c4d34c88743648fcd31cf5f", func := "echelon/echelonlaw13.SessionOnce", spec := "sessionOnce", unfollowed := true, recurses := true, apart := false }
def SessionOnceSaid : Prop := sessionOnceRow.holds Try.pinned (OpenSpec.ofChange sessionOnceSpec)

/-- ITS FALSE NEIGHBOUR: 'it returns false'. Refute it at one input. -/
def sessionOnceWrong : ChangeSpec := { name := "sessionOnce", fn := fun _ => fun
  | [d1, d2] => { results := [.lit (.bool false)], args := [d1, d2] }
  | _ => none }
def SessionOnceWrongFalsely : Prop := sessionOnceRow.holds Try.pinned (OpenSpec.ofChange sessionOnceWrong)

/-- 'echelonlaw13.SessionApart': WHATEVER THE INPUT: true; the input reads as it did. -/
def sessionApartSpec : ChangeSpec := { name := "sessionApart", fn := fun _ => fun
  | [d1, d2] => { results := [.lit (.bool true)], args := [d1, d2] }
  | _ => none }
def sessionApartRow : OpenClaim := { program := "ytnkpleggmiamdaa", sum := "226e3f150e2f2d9151a73222cf3f44290d0616931c4d34c88743648fcd31cf5f", func := "echelon/echelonlaw13.SessionApart", spec := "sessionApart", unfollowed := true, recurses := true, apart := false }
def SessionApartSaid : Prop := sessionApartRow.holds Try.pinned (OpenSpec.ofChange sessionApartSpec)

/-- ITS FALSE NEIGHBOUR: 'it returns false'. Refute it at one input. -/
def sessionApartWrong : ChangeSpec := { name := "sessionApart", fn := fun _ => fun
  | [d1, d2] => { results := [.lit (.bool false)], args := [d1, d2] }
  | _ => none }
def SessionApartWrongFalsely : Prop := sessionApartRow.holds Try.pinned (OpenSpec.ofChange sessionApartWrong)

/-- 'echelonlaw13.SessionParses': WHATEVER THE INPUT: true; the input reads as it did. -/
def sessionParsesSpec : ChangeSpec := { name := "sessionParses", fn := fun _ => fun
  | [d] => { results := [.lit (.bool true)], args := [d] }
  | _ => none }
def sessionParsesRow : OpenClaim := { program := "ytnkpleggmiamdaa", sum := "226e3f150e2f2d9151a73222cf3f44290d0616931c4d34c88743648fcd31cf5f", func := "echelon/echelonlaw13.SessionParses", spec := "sessionParses", unfollowed := true, recurses := true, apart := false }
def SessionParsesSaid : Prop := sessionParsesRow.holds Try.pinned (OpenSpec.ofChange sessionParsesSpec)

/-- ITS FALSE NEIGHBOUR: 'it returns false'. Refute it at one input. -/
def sessionParsesWrong : ChangeSpec := { name := "sessionParses", fn := fun _ => fun
  | [d] => { results := [.lit (.bool false)], args := [d] }
  | _ => none }
def SessionParsesWrongFalsely : Prop := sessionParsesRow.holds Try.pinned (OpenSpec.ofChange sessionParsesWrong)

/-- 'echelonlaw13.SessionActs': WHATEVER THE INPUT: true; the input reads as it did. -/
def sessionActsSpec : ChangeSpec := { name := "sessionActs", fn := fun _ => fun
  | [d] => { results := [.lit (.bool true)], args := [d] }
  | _ => none }
def sessionActsRow : OpenClaim := { program := "ytnkpleggmiamdaa", sum := "226e3f150e2f2d9151a73222cf3f44290d0616931c4d34c88743648fcd31cf5f", func := "echelon/echelonlaw13.SessionActs", spec := "sessionActs", unfollowed := true, recurses := true, apart := false }
def SessionActsSaid : Prop := sessionActsRow.holds Try.pinned (OpenSpec.ofChange sessionActsSpec)

/-- ITS FALSE NEIGHBOUR: 'it returns false'. Refute it at one input. -/
def sessionActsWrong : ChangeSpec := { name := "sessionActs", fn := fun _ => fun
  | [d] => { results := [.lit (.bool false)], args := [d] }
  | _ => none }
def SessionActsWrongFalsely : Prop := sessionActsRow.holds Try.pinned (OpenSpec.ofChange sessionActsWrong)

/-- 'echelonlaw17.HealthApart': WHATEVER THE INPUT: true; the input reads as it did. -/
def healthApartSpec : ChangeSpec := { name := "healthApart", fn := fun _ => fun
  | [d1, d2, d3] => { results := [.lit (.bool true)], args := [d1, d2, d3] }
  | _ => none }
def healthApartRow : OpenClaim := { program := "ytnkpleggmiamdaa", sum := "226e3f150e2f2d9151a73222cf3f44290d0616931c4d34c88743648fcd31cf5f", func := "echelon/echelonlaw17.HealthApart", spec := "healthApart", apart := false }
def HealthApartSaid : Prop := healthApartRow.holds Try.pinned (OpenSpec.ofChange healthApartSpec)

/-- ITS FALSE NEIGHBOUR: 'it returns false'. Refute it at one input. -/
def healthApartWrong : ChangeSpec := { name := "healthApart", fn := fun _ => fun
  | [d1, d2, d3] => { results := [.lit (.bool false)], args := [d1, d2, d3] }
  | _ => none }
def HealthApartWrongFalsely : Prop := healthApartRow.holds Try.pinned (OpenSpec.ofChange healthApartWrong)

/-- 'echelonlaw17.HealthWell': WHATEVER THE INPUT: true; the input reads as it did. -/
def healthWellSpec : ChangeSpec := { name := "healthWell", fn := fun _ => fun
  | [d1, d2, d3] => { results := [.lit (.bool true)], args := [d1, d2, d3] }
  | _ => none }
def healthWellRow : OpenClaim := { program := "ytnkpleggmiamdaa", sum := "226e3f150e2f2d9151a73222cf3f44290d0616931c4d34c88743648fcd31cf5f", func := "echelon/echelonlaw17.HealthWell", spec := "healthWell", unfollowed := true, recurses := true, apart := false }
def HealthWellSaid : Prop := healthWellRow.holds Try.pinned (OpenSpec.ofChange healthWellSpec)

/-- ITS FALSE NEIGHBOUR: 'it returns false'. Refute it at one input. -/
def healthWellWrong : ChangeSpec := { name := "healthWell", fn := fun _ => fun
  | [d1, d2, d3] => { results := [.lit (.bool false)], args := [d1, d2, d3] }
  | _ => none }
def HealthWellWrongFalsely : Prop := healthWellRow.holds Try.pinned (OpenSpec.ofChange healthWellWrong)

/-- 'echelonlaw17.HealthParses': WHATEVER THE INPUT: true; the input reads as it did. -/
def healthParsesSpec : ChangeSpec := { name := "healthParses", fn := fun _ => fun
  | [d] => { results := [.lit (.bool true)], args := [d] }
  | _ => none }
def healthParsesRow : OpenClaim := { program := "ytnkpleggmiamdaa", sum := "226e3f150e2f2d9151a73222cf3f44290d0616931c4d34c88743648fcd31cf5f", func := "echelon/echelonlaw17.HealthParses", spec := "healthParses", unfollowed := true, recurses := true, apart := false }
def HealthParsesSaid : Prop := healthParsesRow.holds Try.pinned (OpenSpec.ofChange healthParsesSpec)

/-- ITS FALSE NEIGHBOUR: 'it returns false'. Refute it at one input. -/
def healthParsesWrong : ChangeSpec := { name := "healthParses", fn := fun _ => fun
  | [d] => { results := [.lit (.bool false)], args := [d] }
  | _ => none }
def HealthParsesWrongFalsely : Prop := healthParsesRow.holds Try.pinned (OpenSpec.ofChange healthParsesWrong)

/-- 'echelonlaw17.HealthActs': WHATEVER THE INPUT: true; the input reads as it did. -/
def healthActsSpec : ChangeSpec := { name := "healthActs", fn := fun _ => fun
  | [d1, d2, d3] => { results := [.lit (.bool true)], args := [d1, d2, d3] }
  | _ => none }
def healthActsRow : OpenClaim := { program := "ytnkpleggmiamdaa", sum := "226e3f150e2f2d9151a73222cf3f44290d0616931c4d34c88743648fcd31cf5f", func := "echelon/echelonlaw17.HealthActs", spec := "healthActs", unfollowed := true, recurses := true, apart := false }
def HealthActsSaid : Prop := healthActsRow.holds Try.pinned (OpenSpec.ofChange healthActsSpec)

/-- ITS FALSE NEIGHBOUR: 'it returns false'. Refute it at one input. -/
def healthActsWrong : ChangeSpec := { name := "healthActs", fn := fun _ => fun
  | [d1, d2, d3] => { results := [.lit (.bool false)], args := [d1, d2, d3] }
  | _ => none }
def HealthActsWrongFalsely : Prop := healthActsRow.holds Try.pinned (OpenSpec.ofChange healthActsWrong)

/-- 'echelonlaw16.LeaseFull': WHATEVER THE INPUT: true; the input reads as it did. -/
def leaseFullSpec : ChangeSpec := { name := "leaseFull", fn := fun _ => fun
  | [d1, d2, d3] => { results := [.lit (.bool true)], args := [d1, d2, d3] }
  | _ => none }
def leaseFullRow : OpenClaim := { program := "ytnkpleggmiamdaa", sum := "226e3f150e2f2d9151a73222cf3f44290d0616931c4d34c88743648fcd31cf5f", func := "echelon/echelonlaw16.LeaseFull", spec := "leaseFull", unfollowed := true, recurses := true, apart := false }
def LeaseFullSaid : Prop := leaseFullRow.holds Try.pinned (OpenSpec.ofChange leaseFullSpec)

/-- ITS FALSE NEIGHBOUR: 'it returns false'. Refute it at one input. -/
def leaseFullWrong : ChangeSpec := { name := "leaseFull", fn := fun _ => fun
  | [d1, d2, d3] => { results := [.lit (.bool false)], args := [d1, d2, d3] }
  | _ => none }
def LeaseFullWrongFalsely : Prop := leaseFullRow.holds Try.pinned (OpenSpec.ofChange leaseFullWrong)

/-- 'echelonlaw16.LeaseAll': WHATEVER THE INPUT: true; the input reads as it did. -/
def leaseAllSpec : ChangeSpec := { name := "leaseAll", fn := fun _ => fun
  | [d1, d2, d3] => { results := [.lit (.bool true)], args := [d1, d2, d3] }
  | _ => none }
def leaseAllRow : OpenClaim := { program := "ytnkpleggmiamdaa", sum := "226e3f150e2f2d9151a73222cf3f44290d0616931c4d34c88743648fcd31cf5f", func := "echelon/echelonlaw16.LeaseAll", spec := "leaseAll", unfollowed := true, recurses := true, apart := false }
def LeaseAllSaid : Prop := leaseAllRow.holds Try.pinned (OpenSpec.ofChange leaseAllSpec)

/-- ITS FALSE NEIGHBOUR: 'it returns false'. Refute it at one input. -/
def leaseAllWrong : ChangeSpec := { name := "leaseAll", fn := fun _ => fun
  | [d1, d2, d3] => { results := [.lit (.bool false)], args := [d1, d2, d3] }
  | _ => none }
def LeaseAllWrongFalsely : Prop := leaseAllRow.holds Try.pinned (OpenSpec.ofChange leaseAllWrong)

/-- 'echelonlaw16.LeaseParses': WHATEVER THE INPUT: true; the input reads as it did. -/
def leaseParsesSpec : ChangeSpec := { name := "leaseParses", fn := fun _ => fun
  | [d] => { results := [.lit (.bool true)], args := [d] }
  | _ => none }
def leaseParsesRow : OpenClaim := { program := "ytnkpleggmiamdaa", sum := "226e3f150e2f2d9151a73222cf3f44290d0616931c4d34c88743648fcd31cf5f", func := "echelon/echelonlaw16.LeaseParses", spec := "leaseParses", unfollowed := true, recurses := true, apart := false }
def LeaseParsesSaid : Prop := leaseParsesRow.holds Try.pinned (OpenSpec.ofChange leaseParsesSpec)

/-- ITS FALSE NEIGHBOUR: 'it returns false'. Refute it at one input. -/
def leaseParsesWrong : ChangeSpec := { name := "leaseParses", fn := fun _ => fun
  | [d] => { results := [.lit (.bool false)], args := [d] }
  | _ => none }
def LeaseParsesWrongFalsely : Prop := leaseParsesRow.holds Try.pinned (OpenSpec.ofChange leaseParsesWrong)

/- THE SECOND FORM. 'bulk': how many values and letters a reading holds, each counted each time it is reached (what is shared counts as often as it is met; a slice's spare places count too). A statement '..UptoSaid' is the law's where the arguments, and the package variables that the reading takes, are together of bulk at most 1048576: NARROWER than '..Said'. Prove '..Said' where nothing that the law and all that it calls make is longer than what came in: it says more and counts as full. Else prove '..UptoSaid'. A law counts once. -/
mutual
def uptoBulk {H : Type} : DataW H → Nat
  | .lit (.string bytes) => bytes.length + 1
  | .lit _ => 1
  | .nil => 1
  | .ptr d => uptoBulk d + 1
  | .slice elems spare => uptoBulkAll elems + uptoBulkAll spare + 1
  | .agg parts => uptoBulkAll parts + 1
  | .iface _ d => uptoBulk d + 1
  | .map entries => uptoBulkEntries entries + 1
  | .held _ => 1
def uptoBulkAll {H : Type} : List (DataW H) → Nat
  | [] => 0
  | d :: r => uptoBulk d + uptoBulkAll r
def uptoBulkEntries {H : Type} : List (Lit × DataW H) → Nat
  | [] => 0
  | x :: r => uptoBulkEntry x + uptoBulkEntries r
def uptoBulkEntry {H : Type} : Lit × DataW H → Nat
  | (.string bytes, d) => bytes.length + uptoBulk d + 1
  | (_, d) => uptoBulk d + 1
 end
def uptoSmall : (H : Type) → List (DataW H) → Bool := fun _ ds => decide (uptoBulkAll ds ≤ 1048576)
def OpenSpec.upto (s : _root_.Go.ChangeSpec) : _root_.Go.OpenSpec := { _root_.Go.OpenSpec.ofChange s with cond := some uptoSmall }

/-- 'echelonlaw13.SessionOnce', WHERE WHAT IT READS IS OF BULK AT MOST 1048576: true; the input reads as it did. -/
def sessionOnceUptoRow : OpenClaim := { program := "ytnkpleggmiamdaa", sum := "226e3f150e2f2d9151a73222cf3f44290d0616931c4d34c88743648fcd31cf5f", func := "echelon/echelonlaw13.SessionOnce", spec := "sessionOnce", unfollowed := true, recurses := true, apart := false, narrowed := true }
def SessionOnceUptoSaid : Prop := sessionOnceUptoRow.holds Try.pinned (OpenSpec.upto sessionOnceSpec)

/-- 'echelonlaw13.SessionApart', WHERE WHAT IT READS IS OF BULK AT MOST 1048576: true; the input reads as it did. -/
def sessionApartUptoRow : OpenClaim := { program := "ytnkpleggmiamdaa", sum := "226e3f150e2f2d9151a73222cf3f44290d0616931c4d34c88743648fcd31cf5f", func := "echelon/echelonlaw13.SessionApart", spec := "sessionApart", unfollowed := true, recurses := true, apart := false, narrowed := true }
def SessionApartUptoSaid : Prop := sessionApartUptoRow.holds Try.pinned (OpenSpec.upto sessionApartSpec)

/-- 'echelonlaw13.SessionParses', WHERE WHAT IT READS IS OF BULK AT MOST 1048576: true; the input reads as it did. -/
def sessionParsesUptoRow : OpenClaim := { program := "ytnkpleggmiamdaa", sum := "226e3f150e2f2d9151a73222cf3f44290d0616931c4d34c88743648fcd31cf5f", func := "echelon/echelonlaw13.SessionParses", spec := "sessionParses", unfollowed := true, recurses := true, apart := false, narrowed := true }
def SessionParsesUptoSaid : Prop := sessionParsesUptoRow.holds Try.pinned (OpenSpec.upto sessionParsesSpec)

/-- 'echelonlaw13.SessionActs', WHERE WHAT IT READS IS OF BULK AT MOST 1048576: true; the input reads as it did. -/
def sessionActsUptoRow : OpenClaim := { program := "ytnkpleggmiamdaa", sum := "226e3f150e2f2d9151a73222cf3f44290d0616931c4d34c88743648fcd31cf5f", func := "echelon/echelonlaw13.SessionActs", spec := "sessionActs", unfollowed := true, recurses := true, apart := false, narrowed := true }
def SessionActsUptoSaid : Prop := sessionActsUptoRow.holds Try.pinned (OpenSpec.upto sessionActsSpec)

/-- 'echelonlaw17.HealthApart', WHERE WHAT IT READS IS OF BULK AT MOST 1048576: true; the input reads as it did. -/
def healthApartUptoRow : OpenClaim := { program := "ytnkpleggmiamdaa", sum := "226e3f150e2f2d9151a73222cf3f44290d0616931c4d34c88743648fcd31cf5f", func := "echelon/echelonlaw17.HealthApart", spec := "healthApart", apart := false, narrowed := true }
def HealthApartUptoSaid : Prop := healthApartUptoRow.holds Try.pinned (OpenSpec.upto healthApartSpec)

/-- 'echelonlaw17.HealthWell', WHERE WHAT IT READS IS OF BULK AT MOST 1048576: true; the input reads as it did. -/
def healthWellUptoRow : OpenClaim := { program := "ytnkpleggmiamdaa", sum := "226e3f150e2f2d9151a73222cf3f44290d0616931c4d34c88743648fcd31cf5f", func := "echelon/echelonlaw17.HealthWell", spec := "healthWell", unfollowed := true, recurses := true, apart := false, narrowed := true }
def HealthWellUptoSaid : Prop := healthWellUptoRow.holds Try.pinned (OpenSpec.upto healthWellSpec)

/-- 'echelonlaw17.HealthParses', WHERE WHAT IT READS IS OF BULK AT MOST 1048576: true; the input reads as it did. -/
def healthParsesUptoRow : OpenClaim := { program := "ytnkpleggmiamdaa", sum := "226e3f150e2f2d9151a73222cf3f44290d0616931c4d34c88743648fcd31cf5f", func := "echelon/echelonlaw17.HealthParses", spec := "healthParses", unfollowed := true, recurses := true, apart := false, narrowed := true }
def HealthParsesUptoSaid : Prop := healthParsesUptoRow.holds Try.pinned (OpenSpec.upto healthParsesSpec)

/-- 'echelonlaw17.HealthActs', WHERE WHAT IT READS IS OF BULK AT MOST 1048576: true; the input reads as it did. -/
def healthActsUptoRow : OpenClaim := { program := "ytnkpleggmiamdaa", sum := "226e3f150e2f2d9151a73222cf3f44290d0616931c4d34c88743648fcd31cf5f", func := "echelon/echelonlaw17.HealthActs", spec := "healthActs", unfollowed := true, recurses := true, apart := false, narrowed := true }
def HealthActsUptoSaid : Prop := healthActsUptoRow.holds Try.pinned (OpenSpec.upto healthActsSpec)

/-- 'echelonlaw16.LeaseFull', WHERE WHAT IT READS IS OF BULK AT MOST 1048576: true; the input reads as it did. -/
def leaseFullUptoRow : OpenClaim := { program := "ytnkpleggmiamdaa", sum := "226e3f150e2f2d9151a73222cf3f44290d0616931c4d34c88743648fcd31cf5f", func := "echelon/echelonlaw16.LeaseFull", spec := "leaseFull", unfollowed := true, recurses := true, apart := false, narrowed := true }
def LeaseFullUptoSaid : Prop := leaseFullUptoRow.holds Try.pinned (OpenSpec.upto leaseFullSpec)

/-- 'echelonlaw16.LeaseAll', WHERE WHAT IT READS IS OF BULK AT MOST 1048576: true; the input reads as it did. -/
def leaseAllUptoRow : OpenClaim := { program := "ytnkpleggmiamdaa", sum := "226e3f150e2f2d9151a73222cf3f44290d0616931c4d34c88743648fcd31cf5f", func := "echelon/echelonlaw16.LeaseAll", spec := "leaseAll", unfollowed := true, recurses := true, apart := false, narrowed := true }
def LeaseAllUptoSaid : Prop := leaseAllUptoRow.holds Try.pinned (OpenSpec.upto leaseAllSpec)

/-- 'echelonlaw16.LeaseParses', WHERE WHAT IT READS IS OF BULK AT MOST 1048576: true; the input reads as it did. -/
def leaseParsesUptoRow : OpenClaim := { program := "ytnkpleggmiamdaa", sum := "226e3f150e2f2d9151a73222cf3f44290d0616931c4d34c88743648fcd31cf5f", func := "echelon/echelonlaw16.LeaseParses", spec := "leaseParses", unfollowed := true, recurses := true, apart := false, narrowed := true }
def LeaseParsesUptoSaid : Prop := leaseParsesUptoRow.holds Try.pinned (OpenSpec.upto leaseParsesSpec)

end Rows
end Go.Proofs.Ytnkpleggmiamdaa
