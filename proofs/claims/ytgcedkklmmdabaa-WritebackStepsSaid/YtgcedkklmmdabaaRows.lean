/-
  No cell of these rows narrows 'for every input' (looked for: loops, veiled, ifaces, maps, wideKeys, modest, calm, conditions, laid).
  DERIVED. THE GIVEN ROWS OF THIS SEAT. 7 by the template 'for every input the law returns true; each argument reads behind the call as it read before'; 0 by the template 'total and deterministic' (their statements: YtgcedkklmmdabaaTotals.lean).
  GIVEN WITH THE SEED: the statements are not yours to turn. If you find one false, say at which input.
  Laid BY PROGRAM, IN A SANDBOX (cutbox-rows.mjs): the forced cells as the released guide's own fill.sh prints them over the translation 432f93a7c02b98ba… (all of the seat's roots in one cut). By AI agents, Wed Nov 11 2026. No macro, syntax, notation, axiom, sorry.
-/
import Derived.Test.YtgcedkklmmdabaaChecked
import GoSem.Claim
import GoSem.ClaimJoined
import GoSem.ClaimMapViews
import Derived.JoinedTies
import Derived.KernelRfl
namespace Go.Proofs.Ytgcedkklmmdabaa
/- THE CELL 'sum', in the pinned program and in every row, IS THE sha256 OF THE DUMP (.gsa) THAT YtgcedkklmmdabaaProg.lean LOADS. Nothing in Lean hashes anything: it is a label: what it is worth is what the hold of that sum in a sandbox is worth. -/
noncomputable def Try.pinned : Pinned := { name := "ytgcedkklmmdabaa", sum := "432f93a7c02b98baa657e96dd5d5172fc6e2c472f02cbc042c864480a0a6b212", checked := Try.checked }
namespace Rows
def none {H : Type} : Left H := { results := [], args := [] }

/-- 'estoverslaw31.WritebackNexts': WHATEVER THE INPUT: true; the input reads as it did. -/
def writebackNextsSpec : ChangeSpec := { name := "writebackNexts", fn := fun _ => fun
  | [d] => { results := [.lit (.bool true)], args := [d] }
  | _ => none }
def writebackNextsRow : OpenClaim := { program := "ytgcedkklmmdabaa", sum := "432f93a7c02b98baa657e96dd5d5172fc6e2c472f02cbc042c864480a0a6b212", func := "estovers/estoverslaw31.WritebackNexts", spec := "writebackNexts", unfollowed := true, recurses := true, plainKeys := false, apart := false }
def WritebackNextsSaid : Prop := writebackNextsRow.holds Try.pinned (OpenSpec.ofChange writebackNextsSpec)

/-- ITS FALSE NEIGHBOUR: 'it returns false'. Refute it at one input. -/
def writebackNextsWrong : ChangeSpec := { name := "writebackNexts", fn := fun _ => fun
  | [d] => { results := [.lit (.bool false)], args := [d] }
  | _ => none }
def WritebackNextsWrongFalsely : Prop := writebackNextsRow.holds Try.pinned (OpenSpec.ofChange writebackNextsWrong)

/-- 'estoverslaw31.WritebackExpires': WHATEVER THE INPUT: true; the input reads as it did. -/
def writebackExpiresSpec : ChangeSpec := { name := "writebackExpires", fn := fun _ => fun
  | [d1, d2, d3] => { results := [.lit (.bool true)], args := [d1, d2, d3] }
  | _ => none }
def writebackExpiresRow : OpenClaim := { program := "ytgcedkklmmdabaa", sum := "432f93a7c02b98baa657e96dd5d5172fc6e2c472f02cbc042c864480a0a6b212", func := "estovers/estoverslaw31.WritebackExpires", spec := "writebackExpires", unfollowed := true, recurses := true, plainKeys := false, apart := false }
def WritebackExpiresSaid : Prop := writebackExpiresRow.holds Try.pinned (OpenSpec.ofChange writebackExpiresSpec)

/-- ITS FALSE NEIGHBOUR: 'it returns false'. Refute it at one input. -/
def writebackExpiresWrong : ChangeSpec := { name := "writebackExpires", fn := fun _ => fun
  | [d1, d2, d3] => { results := [.lit (.bool false)], args := [d1, d2, d3] }
  | _ => none }
def WritebackExpiresWrongFalsely : Prop := writebackExpiresRow.holds Try.pinned (OpenSpec.ofChange writebackExpiresWrong)

/-- 'estoverslaw31.WritebackRuns': WHATEVER THE INPUT: true; the input reads as it did. -/
def writebackRunsSpec : ChangeSpec := { name := "writebackRuns", fn := fun _ => fun
  | [d1, d2] => { results := [.lit (.bool true)], args := [d1, d2] }
  | _ => none }
def writebackRunsRow : OpenClaim := { program := "ytgcedkklmmdabaa", sum := "432f93a7c02b98baa657e96dd5d5172fc6e2c472f02cbc042c864480a0a6b212", func := "estovers/estoverslaw31.WritebackRuns", spec := "writebackRuns", unfollowed := true, recurses := true, plainKeys := false, apart := false }
def WritebackRunsSaid : Prop := writebackRunsRow.holds Try.pinned (OpenSpec.ofChange writebackRunsSpec)

/-- ITS FALSE NEIGHBOUR: 'it returns false'. Refute it at one input. -/
def writebackRunsWrong : ChangeSpec := { name := "writebackRuns", fn := fun _ => fun
  | [d1, d2] => { results := [.lit (.bool false)], args := [d1, d2] }
  | _ => none }
def WritebackRunsWrongFalsely : Prop := writebackRunsRow.holds Try.pinned (OpenSpec.ofChange writebackRunsWrong)

/-- 'estoverslaw31.WritebackWrites': WHATEVER THE INPUT: true; the input reads as it did. -/
def writebackWritesSpec : ChangeSpec := { name := "writebackWrites", fn := fun _ => fun
  | [d1, d2] => { results := [.lit (.bool true)], args := [d1, d2] }
  | _ => none }
def writebackWritesRow : OpenClaim := { program := "ytgcedkklmmdabaa", sum := "432f93a7c02b98baa657e96dd5d5172fc6e2c472f02cbc042c864480a0a6b212", func := "estovers/estoverslaw31.WritebackWrites", spec := "writebackWrites", unfollowed := true, recurses := true, plainKeys := false, apart := false }
def WritebackWritesSaid : Prop := writebackWritesRow.holds Try.pinned (OpenSpec.ofChange writebackWritesSpec)

/-- ITS FALSE NEIGHBOUR: 'it returns false'. Refute it at one input. -/
def writebackWritesWrong : ChangeSpec := { name := "writebackWrites", fn := fun _ => fun
  | [d1, d2] => { results := [.lit (.bool false)], args := [d1, d2] }
  | _ => none }
def WritebackWritesWrongFalsely : Prop := writebackWritesRow.holds Try.pinned (OpenSpec.ofChange writebackWritesWrong)

/-- 'estoverslaw31.WritebackCovers': WHATEVER THE INPUT: true; the input reads as it did. -/
def writebackCoversSpec : ChangeSpec := { name := "writebackCovers", fn := fun _ => fun
  | [d1, d2] => { results := [.lit (.bool true)], args := [d1, d2] }
  | _ => none }
def writebackCoversRow : OpenClaim := { program := "ytgcedkklmmdabaa", sum := "432f93a7c02b98baa657e96dd5d5172fc6e2c472f02cbc042c864480a0a6b212", func := "estovers/estoverslaw31.WritebackCovers", spec := "writebackCovers", unfollowed := true, recurses := true, plainKeys := false, apart := false }
def WritebackCoversSaid : Prop := writebackCoversRow.holds Try.pinned (OpenSpec.ofChange writebackCoversSpec)

/-- ITS FALSE NEIGHBOUR: 'it returns false'. Refute it at one input. -/
def writebackCoversWrong : ChangeSpec := { name := "writebackCovers", fn := fun _ => fun
  | [d1, d2] => { results := [.lit (.bool false)], args := [d1, d2] }
  | _ => none }
def WritebackCoversWrongFalsely : Prop := writebackCoversRow.holds Try.pinned (OpenSpec.ofChange writebackCoversWrong)

/-- 'estoverslaw31.WritebackEnds': WHATEVER THE INPUT: true; the input reads as it did. -/
def writebackEndsSpec : ChangeSpec := { name := "writebackEnds", fn := fun _ => fun
  | [d1, d2, d3] => { results := [.lit (.bool true)], args := [d1, d2, d3] }
  | _ => none }
def writebackEndsRow : OpenClaim := { program := "ytgcedkklmmdabaa", sum := "432f93a7c02b98baa657e96dd5d5172fc6e2c472f02cbc042c864480a0a6b212", func := "estovers/estoverslaw31.WritebackEnds", spec := "writebackEnds", unfollowed := true, recurses := true, plainKeys := false, apart := false }
def WritebackEndsSaid : Prop := writebackEndsRow.holds Try.pinned (OpenSpec.ofChange writebackEndsSpec)

/-- ITS FALSE NEIGHBOUR: 'it returns false'. Refute it at one input. -/
def writebackEndsWrong : ChangeSpec := { name := "writebackEnds", fn := fun _ => fun
  | [d1, d2, d3] => { results := [.lit (.bool false)], args := [d1, d2, d3] }
  | _ => none }
def WritebackEndsWrongFalsely : Prop := writebackEndsRow.holds Try.pinned (OpenSpec.ofChange writebackEndsWrong)

/-- 'estoverslaw31.WritebackSteps': WHATEVER THE INPUT: true; the input reads as it did. -/
def writebackStepsSpec : ChangeSpec := { name := "writebackSteps", fn := fun _ => fun
  | [d] => { results := [.lit (.bool true)], args := [d] }
  | _ => none }
def writebackStepsRow : OpenClaim := { program := "ytgcedkklmmdabaa", sum := "432f93a7c02b98baa657e96dd5d5172fc6e2c472f02cbc042c864480a0a6b212", func := "estovers/estoverslaw31.WritebackSteps", spec := "writebackSteps", unfollowed := true, recurses := true, plainKeys := false, apart := false }
def WritebackStepsSaid : Prop := writebackStepsRow.holds Try.pinned (OpenSpec.ofChange writebackStepsSpec)

/-- ITS FALSE NEIGHBOUR: 'it returns false'. Refute it at one input. -/
def writebackStepsWrong : ChangeSpec := { name := "writebackSteps", fn := fun _ => fun
  | [d] => { results := [.lit (.bool false)], args := [d] }
  | _ => none }
def WritebackStepsWrongFalsely : Prop := writebackStepsRow.holds Try.pinned (OpenSpec.ofChange writebackStepsWrong)

/- THE SECOND FORM. 'bulk': how many values and letters a reading holds, each counted each time it is reached (what is shared counts as often as it is met; a slice's spare places count too). A statement '..UptoSaid' is the law's where the arguments, and the package variables that the reading takes, are together of bulk at most 1048576: NARROWER than '..Said'. Prove '..Said' where nothing that the law and all that it calls make is longer than what came in: it says more and counts as full. Else prove '..UptoSaid'. A law counts once. -/
mutual
def uptoBulk {H : Type} : DataW H → Nat
  | .lit (.string bytes) => bytes.length + 1
  | .lit _ => 1
  | .nil => 1
  | .ptr d => uptoBulk d + 1
  | .slice elems spare => uptoBulkAll elems + uptoBulkAll spare + 1
  | .agg parts => uptoBulkAll parts + 1
  | .iface _ d => uptoBulk d + 1
  | .map entries => uptoBulkEntries entries + 1
  | .held _ => 1
def uptoBulkAll {H : Type} : List (DataW H) → Nat
  | [] => 0
  | d :: r => uptoBulk d + uptoBulkAll r
def uptoBulkEntries {H : Type} : List (Lit × DataW H) → Nat
  | [] => 0
  | x :: r => uptoBulkEntry x + uptoBulkEntries r
def uptoBulkEntry {H : Type} : Lit × DataW H → Nat
  | (.string bytes, d) => bytes.length + uptoBulk d + 1
  | (_, d) => uptoBulk d + 1
 end
def uptoSmall : (H : Type) → List (DataW H) → Bool := fun _ ds => decide (uptoBulkAll ds ≤ 1048576)
def OpenSpec.upto (s : _root_.Go.ChangeSpec) : _root_.Go.OpenSpec := { _root_.Go.OpenSpec.ofChange s with cond := some uptoSmall }

/-- 'estoverslaw31.WritebackNexts', WHERE WHAT IT READS IS OF BULK AT MOST 1048576: true; the input reads as it did. -/
def writebackNextsUptoRow : OpenClaim := { program := "ytgcedkklmmdabaa", sum := "432f93a7c02b98baa657e96dd5d5172fc6e2c472f02cbc042c864480a0a6b212", func := "estovers/estoverslaw31.WritebackNexts", spec := "writebackNexts", unfollowed := true, recurses := true, plainKeys := false, apart := false, narrowed := true }
def WritebackNextsUptoSaid : Prop := writebackNextsUptoRow.holds Try.pinned (OpenSpec.upto writebackNextsSpec)

/-- 'estoverslaw31.WritebackExpires', WHERE WHAT IT READS IS OF BULK AT MOST 1048576: true; the input reads as it did. -/
def writebackExpiresUptoRow : OpenClaim := { program := "ytgcedkklmmdabaa", sum := "432f93a7c02b98baa657e96dd5d5172fc6e2c472f02cbc042c864480a0a6b212", func := "estovers/estoverslaw31.WritebackExpires", spec := "writebackExpires", unfollowed := true, recurses := true, plainKeys := false, apart := false, narrowed := true }
def WritebackExpiresUptoSaid : Prop := writebackExpiresUptoRow.holds Try.pinned (OpenSpec.upto writebackExpiresSpec)

/-- 'estoverslaw31.WritebackRuns', WHERE WHAT IT READS IS OF BULK AT MOST 1048576: true; the input reads as it did. -/
def writebackRunsUptoRow : OpenClaim := { program := "ytgcedkklmmdabaa", sum := "432f93a7c02b98baa657e96dd5d5172fc6e2c472f02cbc042c864480a0a6b212", func := "estovers/estoverslaw31.WritebackRuns", spec := "writebackRuns", unfollowed := true, recurses := true, plainKeys := false, apart := false, narrowed := true }
def WritebackRunsUptoSaid : Prop := writebackRunsUptoRow.holds Try.pinned (OpenSpec.upto writebackRunsSpec)

/-- 'estoverslaw31.WritebackWrites', WHERE WHAT IT READS IS OF BULK AT MOST 1048576: true; the input reads as it did. -/
def writebackWritesUptoRow : OpenClaim := { program := "ytgcedkklmmdabaa", sum := "432f93a7c02b98baa657e96dd5d5172fc6e2c472f02cbc042c864480a0a6b212", func := "estovers/estoverslaw31.WritebackWrites", spec := "writebackWrites", unfollowed := true, recurses := true, plainKeys := false, apart := false, narrowed := true }
def WritebackWritesUptoSaid : Prop := writebackWritesUptoRow.holds Try.pinned (OpenSpec.upto writebackWritesSpec)

/-- 'estoverslaw31.WritebackCovers', WHERE WHAT IT READS IS OF BULK AT MOST 1048576: true; the input reads as it did. -/
def writebackCoversUptoRow : OpenClaim := { program := "ytgcedkklmmdabaa", sum := "432f93a7c02b98baa657e96dd5d5172fc6e2c472f02cbc042c864480a0a6b212", func := "estovers/estoverslaw31.WritebackCovers", spec := "writebackCovers", unfollowed := true, recurses := true, plainKeys := false, apart := false, narrowed := true }
def WritebackCoversUptoSaid : Prop := writebackCoversUptoRow.holds Try.pinned (OpenSpec.upto writebackCoversSpec)

/-- 'estoverslaw31.WritebackEnds', WHERE WHAT IT READS IS OF BULK AT MOST 1048576: true; the input reads as it did. -/
def writebackEndsUptoRow : OpenClaim := { program := "ytgcedkklmmdabaa", sum := "432f93a7c02b98baa657e96dd5d5172fc6e2c472f02cbc042c864480a0a6b212", func := "estovers/estoverslaw31.WritebackEnds", spec := "writebackEnds", unfollowed := true, recurses := true, plainKeys := false, apart := false, narrowed := true }
def WritebackEndsUptoSaid : Prop := writebackEndsUptoRow.holds Try.pinned (OpenSpec.upto writebackEndsSpec)

/-- 'estoverslaw31.WritebackSteps', WHERE WHAT IT READS IS OF BULK AT MOST 1048576: true; the input reads as it did. -/
def writebackStepsUptoRow : OpenClaim := { program := "ytgcedkklmmdabaa", sum := "432f93a7c02b98baa657e96dd5d5172fc6e2c472f02cbc042c864480a0a6b212", func := "estovers/estoverslaw31.WritebackSteps", spec := "writebackSteps", unfollowed := true, recurses := true, plainKeys := false, apart := false, narrowed := true }
def WritebackStepsUptoSaid : Prop := writebackStepsUptoRow.holds Try.pinned (OpenSpec.upto writebackStepsSpec)

end Rows
end Go.Proofs.Ytgcedkklmmdabaa
