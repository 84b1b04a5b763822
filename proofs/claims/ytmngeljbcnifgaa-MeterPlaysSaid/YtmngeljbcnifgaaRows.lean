/-
  No cell of these rows narrows 'for every input' (looked for: loops, veiled, ifaces, maps, wideKeys, modest, calm, conditions, laid).
  DERIVED. THE GIVEN ROWS OF THIS SEAT. 4 by the template 'for every input the law returns true; each argument reads behind the call as it read before'; 0 by the template 'total and deterministic' (their statements: YtmngeljbcnifgaaTotals.lean).
  GIVEN WITH THE SEED: the statements are not yours to turn. If you find one false, say at which input.
  Laid BY PROGRAM, IN A SANDBOX (cutbox-rows.mjs): the forced cells as the released guide's own fill.sh prints them over the translation 5e4d50b18322fc5f… (all of the seat's roots in one cut). By AI agents, Wed Nov 11 2026. No macro, syntax, notation, axiom, sorry.
-/
import Derived.Test.YtmngeljbcnifgaaChecked
import GoSem.Claim
import GoSem.ClaimJoined
import GoSem.ClaimMapViews
import Derived.JoinedTies
import Derived.KernelRfl
namespace Go.Proofs.Ytmngeljbcnifgaa
/- THE CELL 'sum', in the pinned program and in every row, IS THE sha256 OF THE DUMP (.gsa) THAT YtmngeljbcnifgaaProg.lean LOADS. Nothing in Lean hashes anything: it is a label: what it is worth is what the hold of that sum in a sandbox is worth. -/
noncomputable def Try.pinned : Pinned := { name := "ytmngeljbcnifgaa", sum := "5e4d50b18322fc5f1456044f26f7699f67864ee3b6b48397bbd483485cfde079", checked := Try.checked }
namespace Rows
def none {H : Type} : Left H := { results := [], args := [] }

/-- 'selkielaw19.MeterLeaves': WHATEVER THE INPUT: true; the input reads as it did. -/
def meterLeavesSpec : ChangeSpec := { name := "meterLeaves", fn := fun _ => fun
  | [d1, d2] => { results := [.lit (.bool true)], args := [d1, d2] }
  | _ => none }
def meterLeavesRow : OpenClaim := { program := "ytmngeljbcnifgaa", sum := "5e4d50b18322fc5f1456044f26f7699f67864ee3b6b48397bbd483485cfde079", func := "selkie/selkielaw19.MeterLeaves", spec := "meterLeaves", unfollowed := true, recurses := true, apart := false }
def MeterLeavesSaid : Prop := meterLeavesRow.holds Try.pinned (OpenSpec.ofChange meterLeavesSpec)

/-- ITS FALSE NEIGHBOUR: 'it returns false'. Refute it at one input. -/
def meterLeavesWrong : ChangeSpec := { name := "meterLeaves", fn := fun _ => fun
  | [d1, d2] => { results := [.lit (.bool false)], args := [d1, d2] }
  | _ => none }
def MeterLeavesWrongFalsely : Prop := meterLeavesRow.holds Try.pinned (OpenSpec.ofChange meterLeavesWrong)

/-- 'selkielaw19.MeterPlays': WHATEVER THE INPUT: true; the input reads as it did. -/
def meterPlaysSpec : ChangeSpec := { name := "meterPlays", fn := fun _ => fun
  | [d1, d2] => { results := [.lit (.bool true)], args := [d1, d2] }
  | _ => none }
def meterPlaysRow : OpenClaim := { program := "ytmngeljbcnifgaa", sum := "5e4d50b18322fc5f1456044f26f7699f67864ee3b6b48397bbd483485cfde079", func := "selkie/selkielaw19.MeterPlays", spec := "meterPlays", unfollowed := true, recurses := true, apart := false }
def MeterPlaysSaid : Prop := meterPlaysRow.holds Try.pinned (OpenSpec.ofChange meterPlaysSpec)

/-- ITS FALSE NEIGHBOUR: 'it returns false'. Refute it at one input. -/
def meterPlaysWrong : ChangeSpec := { name := "meterPlays", fn := fun _ => fun
  | [d1, d2] => { results := [.lit (.bool false)], args := [d1, d2] }
  | _ => none }
def MeterPlaysWrongFalsely : Prop := meterPlaysRow.holds Try.pinned (OpenSpec.ofChange meterPlaysWrong)

/-- 'selkielaw19.MeterStops': WHATEVER THE INPUT: true; the input reads as it did. -/
def meterStopsSpec : ChangeSpec := { name := "meterStops", fn := fun _ => fun
  | [d1, d2] => { results := [.lit (.bool true)], args := [d1, d2] }
  | _ => none }
def meterStopsRow : OpenClaim := { program := "ytmngeljbcnifgaa", sum := "5e4d50b18322fc5f1456044f26f7699f67864ee3b6b48397bbd483485cfde079", func := "selkie/selkielaw19.MeterStops", spec := "meterStops", unfollowed := true, recurses := true, apart := false }
def MeterStopsSaid : Prop := meterStopsRow.holds Try.pinned (OpenSpec.ofChange meterStopsSpec)

/-- ITS FALSE NEIGHBOUR: 'it returns false'. Refute it at one input. -/
def meterStopsWrong : ChangeSpec := { name := "meterStops", fn := fun _ => fun
  | [d1, d2] => { results := [.lit (.bool false)], args := [d1, d2] }
  | _ => none }
def MeterStopsWrongFalsely : Prop := meterStopsRow.holds Try.pinned (OpenSpec.ofChange meterStopsWrong)

/-- 'selkielaw19.MeterWider': WHATEVER THE INPUT: true; the input reads as it did. -/
def meterWiderSpec : ChangeSpec := { name := "meterWider", fn := fun _ => fun
  | [d1, d2, d3] => { results := [.lit (.bool true)], args := [d1, d2, d3] }
  | _ => none }
def meterWiderRow : OpenClaim := { program := "ytmngeljbcnifgaa", sum := "5e4d50b18322fc5f1456044f26f7699f67864ee3b6b48397bbd483485cfde079", func := "selkie/selkielaw19.MeterWider", spec := "meterWider", unfollowed := true, recurses := true, apart := false }
def MeterWiderSaid : Prop := meterWiderRow.holds Try.pinned (OpenSpec.ofChange meterWiderSpec)

/-- ITS FALSE NEIGHBOUR: 'it returns false'. Refute it at one input. -/
def meterWiderWrong : ChangeSpec := { name := "meterWider", fn := fun _ => fun
  | [d1, d2, d3] => { results := [.lit (.bool false)], args := [d1, d2, d3] }
  | _ => none }
def MeterWiderWrongFalsely : Prop := meterWiderRow.holds Try.pinned (OpenSpec.ofChange meterWiderWrong)

/- THE SECOND FORM. 'bulk': how many values and letters a reading holds, each counted each time it is reached (what is shared counts as often as it is met; a slice's spare places count too). A statement '..UptoSaid' is the law's where the arguments, and the package variables that the reading takes, are together of bulk at most 1048576: NARROWER than '..Said'. Prove '..Said' where nothing that the law and all that it calls make is longer than what came in: it says more and counts as full. Else prove '..UptoSaid'. A law counts once. -/
mutual
def uptoBulk {H : Type} : DataW H → Nat
  | .lit (.string bytes) => bytes.length + 1
  | .lit _ => 1
  | .nil => 1
  | .ptr d => uptoBulk d + 1
  | .slice elems spare => uptoBulkAll elems + uptoBulkAll spare + 1
  | .agg parts => uptoBulkAll parts + 1
  | .iface _ d => uptoBulk d + 1
  | .map entries => uptoBulkEntries entries + 1
  | .held _ => 1
def uptoBulkAll {H : Type} : List (DataW H) → Nat
  | [] => 0
  | d :: r => uptoBulk d + uptoBulkAll r
def uptoBulkEntries {H : Type} : List (Lit × DataW H) → Nat
  | [] => 0
  | x :: r => uptoBulkEntry x + uptoBulkEntries r
def uptoBulkEntry {H : Type} : Lit × DataW H → Nat
  | (.string bytes, d) => bytes.length + uptoBulk d + 1
  | (_, d) => uptoBulk d + 1
 end
def uptoSmall : (H : Type) → List (DataW H) → Bool := fun _ ds => decide (uptoBulkAll ds ≤ 1048576)
def OpenSpec.upto (s : _root_.Go.ChangeSpec) : _root_.Go.OpenSpec := { _root_.Go.OpenSpec.ofChange s with cond := some uptoSmall }

/-- 'selkielaw19.MeterLeaves', WHERE WHAT IT READS IS OF BULK AT MOST 1048576: true; the input reads as it did. -/
def meterLeavesUptoRow : OpenClaim := { program := "ytmngeljbcnifgaa", sum := "5e4d50b18322fc5f1456044f26f7699f67864ee3b6b48397bbd483485cfde079", func := "selkie/selkielaw19.MeterLeaves", spec := "meterLeaves", unfollowed := true, recurses := true, apart := false, narrowed := true }
def MeterLeavesUptoSaid : Prop := meterLeavesUptoRow.holds Try.pinned (OpenSpec.upto meterLeavesSpec)

/-- 'selkielaw19.MeterPlays', WHERE WHAT IT READS IS OF BULK AT MOST 1048576: true; the input reads as it did. -/
def meterPlaysUptoRow : OpenClaim := { program := "ytmngeljbcnifgaa", sum := "5e4d50b18322fc5f1456044f26f7699f67864ee3b6b48397bbd483485cfde079", func := "selkie/selkielaw19.MeterPlays", spec := "meterPlays", unfollowed := true, recurses := true, apart := false, narrowed := true }
def MeterPlaysUptoSaid : Prop := meterPlaysUptoRow.holds Try.pinned (OpenSpec.upto meterPlaysSpec)

/-- 'selkielaw19.MeterStops', WHERE WHAT IT READS IS OF BULK AT MOST 1048576: true; the input reads as it did. -/
def meterStopsUptoRow : OpenClaim := { program := "ytmngeljbcnifgaa", sum := "5e4d50b18322fc5f1456044f26f7699f67864ee3b6b48397bbd483485cfde079", func := "selkie/selkielaw19.MeterStops", spec := "meterStops", unfollowed := true, recurses := true, apart := false, narrowed := true }
def MeterStopsUptoSaid : Prop := meterStopsUptoRow.holds Try.pinned (OpenSpec.upto meterStopsSpec)

/-- 'selkielaw19.MeterWider', WHERE WHAT IT READS IS OF BULK AT MOST 1048576: true; the input reads as it did. -/
def meterWiderUptoRow : OpenClaim := { program := "ytmngeljbcnifgaa", sum := "5e4d50b18322fc5f1456044f26f7699f67864ee3b6b48397bbd483485cfde079", func := "selkie/selkielaw19.MeterWider", spec := "meterWider", unfollowed := true, recurses := true, apart := false, narrowed := true }
def MeterWiderUptoSaid : Prop := meterWiderUptoRow.holds Try.pinned (OpenSpec.upto meterWiderSpec)

end Rows
end Go.Proofs.Ytmngeljbcnifgaa
