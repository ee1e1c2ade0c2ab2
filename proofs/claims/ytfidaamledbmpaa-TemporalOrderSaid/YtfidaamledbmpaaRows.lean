/-
  No cell of these rows narrows 'for every input' (looked for: loops, veiled, ifaces, maps, wideKeys, modest, calm, conditions, laid).
  DERIVED. THE GIVEN ROWS OF THIS SEAT. 7 by the template 'for every input the law returns true; each argument reads behind the call as it read before'; 0 by the template 'total and deterministic' (their statements: YtfidaamledbmpaaTotals.lean).
  GIVEN WITH THE SEED: the statements are not yours to turn. If you find one false, say at which input.
  Laid BY PROGRAM, IN A SANDBOX (cutbox-rows.mjs): the forced cells as the released guide's own fill.sh prints them over the translation a57d9be008dddeb9… (all of the seat's roots in one cut). By AI agents, Wed Nov 11 2026. No macro, syntax, notation, axiom, sorry.
-/
import Derived.Test.YtfidaamledbmpaaChecked
import GoSem.Claim
import GoSem.ClaimJoined
import GoSem.ClaimMapViews
import Derived.JoinedTies
import Derived.KernelRfl
namespace Go.Proofs.Ytfidaamledbmpaa
/- THE CELL 'sum', in the pinned program and in every row, IS THE sha256 OF THE DUMP (.gsa) THAT YtfidaamledbmpaaProg.lean LOADS. Nothing in Lean hashes anything: it is a label: what it is worth is what the hold of that sum in a sandbox is worth. -/
noncomputable def Try.pinned : Pinned := { name := "ytfidaamledbmpaa", sum := "a57d9be008dddeb93969245f390e2259dd144fe5293d603dea907a5cf2444fbd", checked := Try.checked }
namespace Rows
def none {H : Type} : Left H := { results := [], args := [] }

/-- 'stratagemlaw55.TemporalValidates': WHATEVER THE INPUT: true; the input reads as it did. -/
def temporalValidatesSpec : ChangeSpec := { name := "temporalValidates", fn := fun _ => fun
  | [d1, d2] => { results := [.lit (.bool true)], args := [d1, d2] }
  | _ => none }
def temporalValidatesRow : OpenClaim := { program := "ytfidaamledbmpaa", sum := "a57d9be008dddeb93969245f390e2259dd144fe5293d603dea907a5cf2444fbd", func := "stratagem/stratagemlaw55.TemporalValidates", spec := "temporalValidates", unfollowed := true, recurses := true, apart := false }
def TemporalValidatesSaid : Prop := temporalValidatesRow.holds Try.pinned (OpenSpec.ofChange temporalValidatesSpec)

/-- ITS FALSE NEIGHBOUR: 'it returns false'. Refute it at one input. -/
def temporalValidatesWrong : ChangeSpec := { name := "temporalValidates", fn := fun _ => fun
  | [d1, d2] => { results := [.lit (.bool false)], args := [d1, d2] }
  | _ => none }
def TemporalValidatesWrongFalsely : Prop := temporalValidatesRow.holds Try.pinned (OpenSpec.ofChange temporalValidatesWrong)

/-- 'stratagemlaw55.TemporalOrder': WHATEVER THE INPUT: true; the input reads as it did. -/
def temporalOrderSpec : ChangeSpec := { name := "temporalOrder", fn := fun _ => fun
  | [d1, d2, d3] => { results := [.lit (.bool true)], args := [d1, d2, d3] }
  | _ => none }
def temporalOrderRow : OpenClaim := { program := "ytfidaamledbmpaa", sum := "a57d9be008dddeb93969245f390e2259dd144fe5293d603dea907a5cf2444fbd", func := "stratagem/stratagemlaw55.TemporalOrder", spec := "temporalOrder", unfollowed := true, recurses := true, apart := false }
def TemporalOrderSaid : Prop := temporalOrderRow.holds Try.pinned (OpenSpec.ofChange temporalOrderSpec)

/-- ITS FALSE NEIGHBOUR: 'it returns false'. Refute it at one input. -/
def temporalOrderWrong : ChangeSpec := { name := "temporalOrder", fn := fun _ => fun
  | [d1, d2, d3] => { results := [.lit (.bool false)], args := [d1, d2, d3] }
  | _ => none }
def TemporalOrderWrongFalsely : Prop := temporalOrderRow.holds Try.pinned (OpenSpec.ofChange temporalOrderWrong)

/-- 'stratagemlaw55.TemporalSingle': WHATEVER THE INPUT: true; the input reads as it did. -/
def temporalSingleSpec : ChangeSpec := { name := "temporalSingle", fn := fun _ => fun
  | [d1, d2, d3] => { results := [.lit (.bool true)], args := [d1, d2, d3] }
  | _ => none }
def temporalSingleRow : OpenClaim := { program := "ytfidaamledbmpaa", sum := "a57d9be008dddeb93969245f390e2259dd144fe5293d603dea907a5cf2444fbd", func := "stratagem/stratagemlaw55.TemporalSingle", spec := "temporalSingle", unfollowed := true, recurses := true, apart := false }
def TemporalSingleSaid : Prop := temporalSingleRow.holds Try.pinned (OpenSpec.ofChange temporalSingleSpec)

/-- ITS FALSE NEIGHBOUR: 'it returns false'. Refute it at one input. -/
def temporalSingleWrong : ChangeSpec := { name := "temporalSingle", fn := fun _ => fun
  | [d1, d2, d3] => { results := [.lit (.bool false)], args := [d1, d2, d3] }
  | _ => none }
def TemporalSingleWrongFalsely : Prop := temporalSingleRow.holds Try.pinned (OpenSpec.ofChange temporalSingleWrong)

/-- 'stratagemlaw55.TemporalInterferes': WHATEVER THE INPUT: true; the input reads as it did. -/
def temporalInterferesSpec : ChangeSpec := { name := "temporalInterferes", fn := fun _ => fun
  | [d1, d2, d3] => { results := [.lit (.bool true)], args := [d1, d2, d3] }
  | _ => none }
def temporalInterferesRow : OpenClaim := { program := "ytfidaamledbmpaa", sum := "a57d9be008dddeb93969245f390e2259dd144fe5293d603dea907a5cf2444fbd", func := "stratagem/stratagemlaw55.TemporalInterferes", spec := "temporalInterferes", unfollowed := true, recurses := true, apart := false }
def TemporalInterferesSaid : Prop := temporalInterferesRow.holds Try.pinned (OpenSpec.ofChange temporalInterferesSpec)

/-- ITS FALSE NEIGHBOUR: 'it returns false'. Refute it at one input. -/
def temporalInterferesWrong : ChangeSpec := { name := "temporalInterferes", fn := fun _ => fun
  | [d1, d2, d3] => { results := [.lit (.bool false)], args := [d1, d2, d3] }
  | _ => none }
def TemporalInterferesWrongFalsely : Prop := temporalInterferesRow.holds Try.pinned (OpenSpec.ofChange temporalInterferesWrong)

/-- 'stratagemlaw55.TemporalStates': WHATEVER THE INPUT: true; the input reads as it did. -/
def temporalStatesSpec : ChangeSpec := { name := "temporalStates", fn := fun _ => fun
  | [d1, d2] => { results := [.lit (.bool true)], args := [d1, d2] }
  | _ => none }
def temporalStatesRow : OpenClaim := { program := "ytfidaamledbmpaa", sum := "a57d9be008dddeb93969245f390e2259dd144fe5293d603dea907a5cf2444fbd", func := "stratagem/stratagemlaw55.TemporalStates", spec := "temporalStates", unfollowed := true, recurses := true, apart := false }
def TemporalStatesSaid : Prop := temporalStatesRow.holds Try.pinned (OpenSpec.ofChange temporalStatesSpec)

/-- ITS FALSE NEIGHBOUR: 'it returns false'. Refute it at one input. -/
def temporalStatesWrong : ChangeSpec := { name := "temporalStates", fn := fun _ => fun
  | [d1, d2] => { results := [.lit (.bool false)], args := [d1, d2] }
  | _ => none }
def TemporalStatesWrongFalsely : Prop := temporalStatesRow.holds Try.pinned (OpenSpec.ofChange temporalStatesWrong)

/-- 'stratagemlaw55.TemporalHolds': WHATEVER THE INPUT: true; the input reads as it did. -/
def temporalHoldsSpec : ChangeSpec := { name := "temporalHolds", fn := fun _ => fun
  | [d1, d2] => { results := [.lit (.bool true)], args := [d1, d2] }
  | _ => none }
def temporalHoldsRow : OpenClaim := { program := "ytfidaamledbmpaa", sum := "a57d9be008dddeb93969245f390e2259dd144fe5293d603dea907a5cf2444fbd", func := "stratagem/stratagemlaw55.TemporalHolds", spec := "temporalHolds", unfollowed := true, recurses := true, apart := false }
def TemporalHoldsSaid : Prop := temporalHoldsRow.holds Try.pinned (OpenSpec.ofChange temporalHoldsSpec)

/-- ITS FALSE NEIGHBOUR: 'it returns false'. Refute it at one input. -/
def temporalHoldsWrong : ChangeSpec := { name := "temporalHolds", fn := fun _ => fun
  | [d1, d2] => { results := [.lit (.bool false)], args := [d1, d2] }
  | _ => none }
def TemporalHoldsWrongFalsely : Prop := temporalHoldsRow.holds Try.pinned (OpenSpec.ofChange temporalHoldsWrong)

/-- 'stratagemlaw55.TemporalChecks': WHATEVER THE INPUT: true; the input reads as it did. -/
def temporalChecksSpec : ChangeSpec := { name := "temporalChecks", fn := fun _ => fun
  | [d] => { results := [.lit (.bool true)], args := [d] }
  | _ => none }
def temporalChecksRow : OpenClaim := { program := "ytfidaamledbmpaa", sum := "a57d9be008dddeb93969245f390e2259dd144fe5293d603dea907a5cf2444fbd", func := "stratagem/stratagemlaw55.TemporalChecks", spec := "temporalChecks", unfollowed := true, recurses := true, apart := false }
def TemporalChecksSaid : Prop := temporalChecksRow.holds Try.pinned (OpenSpec.ofChange temporalChecksSpec)

/-- ITS FALSE NEIGHBOUR: 'it returns false'. Refute it at one input. -/
def temporalChecksWrong : ChangeSpec := { name := "temporalChecks", fn := fun _ => fun
  | [d] => { results := [.lit (.bool false)], args := [d] }
  | _ => none }
def TemporalChecksWrongFalsely : Prop := temporalChecksRow.holds Try.pinned (OpenSpec.ofChange temporalChecksWrong)

/- THE SECOND FORM. 'bulk': how many values and letters a reading holds, each counted each time it is reached (what is shared counts as often as it is met; a slice's spare places count too). A statement '..UptoSaid' is the law's where the arguments, and the package variables that the reading takes, are together of bulk at most 1048576: NARROWER than '..Said'. Prove '..Said' where nothing that the law and all that it calls make is longer than what came in: it says more and counts as full. Else prove '..UptoSaid'. A law counts once. -/
mutual
def uptoBulk {H : Type} : DataW H → Nat
  | .lit (.string bytes) => bytes.length + 1
  | .lit _ => 1
  | .nil => 1
  | .ptr d => uptoBulk d + 1
  | .slice elems spare => uptoBulkAll elems + uptoBulkAll spare + 1
  | .agg parts => uptoBulkAll parts + 1
  | .iface _ d => uptoBulk d + 1
  | .map entries => uptoBulkEntries entries + 1
  | .held _ => 1
def uptoBulkAll {H : Type} : List (DataW H) → Nat
  | [] => 0
  | d :: r => uptoBulk d + uptoBulkAll r
def uptoBulkEntries {H : Type} : List (Lit × DataW H) → Nat
  | [] => 0
  | x :: r => uptoBulkEntry x + uptoBulkEntries r
def uptoBulkEntry {H : Type} : Lit × DataW H → Nat
  | (.string bytes, d) => bytes.length + uptoBulk d + 1
  | (_, d) => uptoBulk d + 1
 end
def uptoSmall : (H : Type) → List (DataW H) → Bool := fun _ ds => decide (uptoBulkAll ds ≤ 1048576)
def OpenSpec.upto (s : _root_.Go.ChangeSpec) : _root_.Go.OpenSpec := { _root_.Go.OpenSpec.ofChange s with cond := some uptoSmall }

/-- 'stratagemlaw55.TemporalValidates', WHERE WHAT IT READS IS OF BULK AT MOST 1048576: true; the input reads as it did. -/
def temporalValidatesUptoRow : OpenClaim := { program := "ytfidaamledbmpaa", sum := "a57d9be008dddeb93969245f390e2259dd144fe5293d603dea907a5cf2444fbd", func := "stratagem/stratagemlaw55.TemporalValidates", spec := "temporalValidates", unfollowed := true, recurses := true, apart := false, narrowed := true }
def TemporalValidatesUptoSaid : Prop := temporalValidatesUptoRow.holds Try.pinned (OpenSpec.upto temporalValidatesSpec)

/-- 'stratagemlaw55.TemporalOrder', WHERE WHAT IT READS IS OF BULK AT MOST 1048576: true; the input reads as it did. -/
def temporalOrderUptoRow : OpenClaim := { program := "ytfidaamledbmpaa", sum := "a57d9be008dddeb93969245f390e2259dd144fe5293d603dea907a5cf2444fbd", func := "stratagem/stratagemlaw55.TemporalOrder", spec := "temporalOrder", unfollowed := true, recurses := true, apart := false, narrowed := true }
def TemporalOrderUptoSaid : Prop := temporalOrderUptoRow.holds Try.pinned (OpenSpec.upto temporalOrderSpec)

/-- 'stratagemlaw55.TemporalSingle', WHERE WHAT IT READS IS OF BULK AT MOST 1048576: true; the input reads as it did. -/
def temporalSingleUptoRow : OpenClaim := { program := "ytfidaamledbmpaa", sum := "a57d9be008dddeb93969245f390e2259dd144fe5293d603dea907a5cf2444fbd", func := "stratagem/stratagemlaw55.TemporalSingle", spec := "temporalSingle", unfollowed := true, recurses := true, apart := false, narrowed := true }
def TemporalSingleUptoSaid : Prop := temporalSingleUptoRow.holds Try.pinned (OpenSpec.upto temporalSingleSpec)

/-- 'stratagemlaw55.TemporalInterferes', WHERE WHAT IT READS IS OF BULK AT MOST 1048576: true; the input reads as it did. -/
def temporalInterferesUptoRow : OpenClaim := { program := "ytfidaamledbmpaa", sum := "a57d9be008dddeb93969245f390e2259dd144fe5293d603dea907a5cf2444fbd", func := "stratagem/stratagemlaw55.TemporalInterferes", spec := "temporalInterferes", unfollowed := true, recurses := true, apart := false, narrowed := true }
def TemporalInterferesUptoSaid : Prop := temporalInterferesUptoRow.holds Try.pinned (OpenSpec.upto temporalInterferesSpec)

/-- 'stratagemlaw55.TemporalStates', WHERE WHAT IT READS IS OF BULK AT MOST 1048576: true; the input reads as it did. -/
def temporalStatesUptoRow : OpenClaim := { program := "ytfidaamledbmpaa", sum := "a57d9be008dddeb93969245f390e2259dd144fe5293d603dea907a5cf2444fbd", func := "stratagem/stratagemlaw55.TemporalStates", spec := "temporalStates", unfollowed := true, recurses := true, apart := false, narrowed := true }
def TemporalStatesUptoSaid : Prop := temporalStatesUptoRow.holds Try.pinned (OpenSpec.upto temporalStatesSpec)

/-- 'stratagemlaw55.TemporalHolds', WHERE WHAT IT READS IS OF BULK AT MOST 1048576: true; the input reads as it did. -/
def temporalHoldsUptoRow : OpenClaim := { program := "ytfidaamledbmpaa", sum := "a57d9be008dddeb93969245f390e2259dd144fe5293d603dea907a5cf2444fbd", func := "stratagem/stratagemlaw55.TemporalHolds", spec := "temporalHolds", unfollowed := true, recurses := true, apart := false, narrowed := true }
def TemporalHoldsUptoSaid : Prop := temporalHoldsUptoRow.holds Try.pinned (OpenSpec.upto temporalHoldsSpec)

/-- 'stratagemlaw55.TemporalChecks', WHERE WHAT IT READS IS OF BULK AT MOST 1048576: true; the input reads as it did. -/
def temporalChecksUptoRow : OpenClaim := { program := "ytfidaamledbmpaa", sum := "a57d9be008dddeb93969245f390e2259dd144fe5293d603dea907a5cf2444fbd", func := "stratagem/stratagemlaw55.TemporalChecks", spec := "temporalChecks", unfollowed := true, recurses := true, apart := false, narrowed := true }
def TemporalChecksUptoSaid : Prop := temporalChecksUptoRow.holds Try.pinned (OpenSpec.upto temporalChecksSpec)

end Rows
end Go.Proofs.Ytfidaamledbmpaa
