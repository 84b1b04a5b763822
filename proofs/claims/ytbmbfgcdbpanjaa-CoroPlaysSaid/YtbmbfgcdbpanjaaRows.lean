/-
  No cell of these rows narrows 'for every input' (looked for: loops, veiled, ifaces, maps, wideKeys, modest, calm, conditions, laid).
  DERIVED. THE GIVEN ROWS OF THIS SEAT. 5 by the template 'for every input the law returns true; each argument reads behind the call as it read before'; 0 by the template 'total and deterministic' (their statements: YtbmbfgcdbpanjaaTotals.lean).
  GIVEN WITH THE SEED: the statements are not yours to turn. If you find one false, say at which input.
  Laid BY PROGRAM, IN A SANDBOX (cutbox-rows.mjs): the forced cells as the released guide's own fill.sh prints them over the translation bd34c2977f7cf4fc… (all of the seat's roots in one cut). By AI agents, Wed Nov 11 2026. No macro, syntax, notation, axiom, sorry.
-/
import Derived.Test.YtbmbfgcdbpanjaaChecked
import GoSem.Claim
import GoSem.ClaimJoined
import GoSem.ClaimMapViews
import Derived.JoinedTies
import Derived.KernelRfl
namespace Go.Proofs.Ytbmbfgcdbpanjaa
/- THE CELL 'sum', in the pinned program and in every row, IS THE sha256 OF THE DUMP (.gsa) THAT YtbmbfgcdbpanjaaProg.lean LOADS. Nothing in Lean hashes anything: it is a label: what it is worth is what the hold of that sum in a sandbox is worth. -/
noncomputable def Try.pinned : Pinned := { name := "ytbmbfgcdbpanjaa", sum := "bd34c2977f7cf4fc1fb1b20750965ccc8bc09b2d39702cd42d4622e50bfd1710", checked := Try.checked }
namespace Rows
def none {H : Type} : Left H := { results := [], args := [] }

/-- 'selkielaw20.CoroNests': WHATEVER THE INPUT: true; the input reads as it did. -/
def coroNestsSpec : ChangeSpec := { name := "coroNests", fn := fun _ => fun
  | [d] => { results := [.lit (.bool true)], args := [d] }
  | _ => none }
def coroNestsRow : OpenClaim := { program := "ytbmbfgcdbpanjaa", sum := "bd34c2977f7cf4fc1fb1b20750965ccc8bc09b2d39702cd42d4622e50bfd1710", func := "selkie/selkielaw20.CoroNests", spec := "coroNests", apart := false }
def CoroNestsSaid : Prop := coroNestsRow.holds Try.pinned (OpenSpec.ofChange coroNestsSpec)

/-- ITS FALSE NEIGHBOUR: 'it returns false'. Refute it at one input. -/
def coroNestsWrong : ChangeSpec := { name := "coroNests", fn := fun _ => fun
  | [d] => { results := [.lit (.bool false)], args := [d] }
  | _ => none }
def CoroNestsWrongFalsely : Prop := coroNestsRow.holds Try.pinned (OpenSpec.ofChange coroNestsWrong)

/-- 'selkielaw20.CoroCloses': WHATEVER THE INPUT: true; the input reads as it did. -/
def coroClosesSpec : ChangeSpec := { name := "coroCloses", fn := fun _ => fun
  | [d1, d2] => { results := [.lit (.bool true)], args := [d1, d2] }
  | _ => none }
def coroClosesRow : OpenClaim := { program := "ytbmbfgcdbpanjaa", sum := "bd34c2977f7cf4fc1fb1b20750965ccc8bc09b2d39702cd42d4622e50bfd1710", func := "selkie/selkielaw20.CoroCloses", spec := "coroCloses", apart := false }
def CoroClosesSaid : Prop := coroClosesRow.holds Try.pinned (OpenSpec.ofChange coroClosesSpec)

/-- ITS FALSE NEIGHBOUR: 'it returns false'. Refute it at one input. -/
def coroClosesWrong : ChangeSpec := { name := "coroCloses", fn := fun _ => fun
  | [d1, d2] => { results := [.lit (.bool false)], args := [d1, d2] }
  | _ => none }
def CoroClosesWrongFalsely : Prop := coroClosesRow.holds Try.pinned (OpenSpec.ofChange coroClosesWrong)

/-- 'selkielaw20.CoroPlays': WHATEVER THE INPUT: true; the input reads as it did. -/
def coroPlaysSpec : ChangeSpec := { name := "coroPlays", fn := fun _ => fun
  | [d] => { results := [.lit (.bool true)], args := [d] }
  | _ => none }
def coroPlaysRow : OpenClaim := { program := "ytbmbfgcdbpanjaa", sum := "bd34c2977f7cf4fc1fb1b20750965ccc8bc09b2d39702cd42d4622e50bfd1710", func := "selkie/selkielaw20.CoroPlays", spec := "coroPlays", apart := false }
def CoroPlaysSaid : Prop := coroPlaysRow.holds Try.pinned (OpenSpec.ofChange coroPlaysSpec)

/-- ITS FALSE NEIGHBOUR: 'it returns false'. Refute it at one input. -/
def coroPlaysWrong : ChangeSpec := { name := "coroPlays", fn := fun _ => fun
  | [d] => { results := [.lit (.bool false)], args := [d] }
  | _ => none }
def CoroPlaysWrongFalsely : Prop := coroPlaysRow.holds Try.pinned (OpenSpec.ofChange coroPlaysWrong)

/-- 'selkielaw20.CoroStands': WHATEVER THE INPUT: true; the input reads as it did. -/
def coroStandsSpec : ChangeSpec := { name := "coroStands", fn := fun _ => fun
  | [d] => { results := [.lit (.bool true)], args := [d] }
  | _ => none }
def coroStandsRow : OpenClaim := { program := "ytbmbfgcdbpanjaa", sum := "bd34c2977f7cf4fc1fb1b20750965ccc8bc09b2d39702cd42d4622e50bfd1710", func := "selkie/selkielaw20.CoroStands", spec := "coroStands", unfollowed := true, recurses := true, apart := false }
def CoroStandsSaid : Prop := coroStandsRow.holds Try.pinned (OpenSpec.ofChange coroStandsSpec)

/-- ITS FALSE NEIGHBOUR: 'it returns false'. Refute it at one input. -/
def coroStandsWrong : ChangeSpec := { name := "coroStands", fn := fun _ => fun
  | [d] => { results := [.lit (.bool false)], args := [d] }
  | _ => none }
def CoroStandsWrongFalsely : Prop := coroStandsRow.holds Try.pinned (OpenSpec.ofChange coroStandsWrong)

/-- 'selkielaw20.CoroReturns': WHATEVER THE INPUT: true; the input reads as it did. -/
def coroReturnsSpec : ChangeSpec := { name := "coroReturns", fn := fun _ => fun
  | [d] => { results := [.lit (.bool true)], args := [d] }
  | _ => none }
def coroReturnsRow : OpenClaim := { program := "ytbmbfgcdbpanjaa", sum := "bd34c2977f7cf4fc1fb1b20750965ccc8bc09b2d39702cd42d4622e50bfd1710", func := "selkie/selkielaw20.CoroReturns", spec := "coroReturns", apart := false }
def CoroReturnsSaid : Prop := coroReturnsRow.holds Try.pinned (OpenSpec.ofChange coroReturnsSpec)

/-- ITS FALSE NEIGHBOUR: 'it returns false'. Refute it at one input. -/
def coroReturnsWrong : ChangeSpec := { name := "coroReturns", fn := fun _ => fun
  | [d] => { results := [.lit (.bool false)], args := [d] }
  | _ => none }
def CoroReturnsWrongFalsely : Prop := coroReturnsRow.holds Try.pinned (OpenSpec.ofChange coroReturnsWrong)

/- THE SECOND FORM. 'bulk': how many values and letters a reading holds, each counted each time it is reached (what is shared counts as often as it is met; a slice's spare places count too). A statement '..UptoSaid' is the law's where the arguments, and the package variables that the reading takes, are together of bulk at most 1048576: NARROWER than '..Said'. Prove '..Said' where nothing that the law and all that it calls make is longer than what came in: it says more and counts as full. Else prove '..UptoSaid'. A law counts once. -/
mutual
def uptoBulk {H : Type} : DataW H → Nat
  | .lit (.string bytes) => bytes.length + 1
  | .lit _ => 1
  | .nil => 1
  | .ptr d => uptoBulk d + 1
  | .slice elems spare => uptoBulkAll elems + uptoBulkAll spare + 1
  | .agg parts => uptoBulkAll parts + 1
  | .iface _ d => uptoBulk d + 1
  | .map entries => uptoBulkEntries entries + 1
  | .held _ => 1
def uptoBulkAll {H : Type} : List (DataW H) → Nat
  | [] => 0
  | d :: r => uptoBulk d + uptoBulkAll r
def uptoBulkEntries {H : Type} : List (Lit × DataW H) → Nat
  | [] => 0
  | x :: r => uptoBulkEntry x + uptoBulkEntries r
def uptoBulkEntry {H : Type} : Lit × DataW H → Nat
  | (.string bytes, d) => bytes.length + uptoBulk d + 1
  | (_, d) => uptoBulk d + 1
 end
def uptoSmall : (H : Type) → List (DataW H) → Bool := fun _ ds => decide (uptoBulkAll ds ≤ 1048576)
def OpenSpec.upto (s : _root_.Go.ChangeSpec) : _root_.Go.OpenSpec := { _root_.Go.OpenSpec.ofChange s with cond := some uptoSmall }

/-- 'selkielaw20.CoroNests', WHERE WHAT IT READS IS OF BULK AT MOST 1048576: true; the input reads as it did. -/
def coroNestsUptoRow : OpenClaim := { program := "ytbmbfgcdbpanjaa", sum := "bd34c2977f7cf4fc1fb1b20750965ccc8bc09b2d39702cd42d4622e50bfd1710", func := "selkie/selkielaw20.CoroNests", spec := "coroNests", apart := false, narrowed := true }
def CoroNestsUptoSaid : Prop := coroNestsUptoRow.holds Try.pinned (OpenSpec.upto coroNestsSpec)

/-- 'selkielaw20.CoroCloses', WHERE WHAT IT READS IS OF BULK AT MOST 1048576: true; the input reads as it did. -/
def coroClosesUptoRow : OpenClaim := { program := "ytbmbfgcdbpanjaa", sum := "bd34c2977f7cf4fc1fb1b20750965ccc8bc09b2d39702cd42d4622e50bfd1710", func := "selkie/selkielaw20.CoroCloses", spec := "coroCloses", apart := false, narrowed := true }
def CoroClosesUptoSaid : Prop := coroClosesUptoRow.holds Try.pinned (OpenSpec.upto coroClosesSpec)

/-- 'selkielaw20.CoroPlays', WHERE WHAT IT READS IS OF BULK AT MOST 1048576: true; the input reads as it did. -/
def coroPlaysUptoRow : OpenClaim := { program := "ytbmbfgcdbpanjaa", sum := "bd34c2977f7cf4fc1fb1b20750965ccc8bc09b2d39702cd42d4622e50bfd1710", func := "selkie/selkielaw20.CoroPlays", spec := "coroPlays", apart := false, narrowed := true }
def CoroPlaysUptoSaid : Prop := coroPlaysUptoRow.holds Try.pinned (OpenSpec.upto coroPlaysSpec)

/-- 'selkielaw20.CoroStands', WHERE WHAT IT READS IS OF BULK AT MOST 1048576: true; the input reads as it did. -/
def coroStandsUptoRow : OpenClaim := { program := "ytbmbfgcdbpanjaa", sum := "bd34c2977f7cf4fc1fb1b20750965ccc8bc09b2d39702cd42d4622e50bfd1710", func := "selkie/selkielaw20.CoroStands", spec := "coroStands", unfollowed := true, recurses := true, apart := false, narrowed := true }
def CoroStandsUptoSaid : Prop := coroStandsUptoRow.holds Try.pinned (OpenSpec.upto coroStandsSpec)

/-- 'selkielaw20.CoroReturns', WHERE WHAT IT READS IS OF BULK AT MOST 1048576: true; the input reads as it did. -/
def coroReturnsUptoRow : OpenClaim := { program := "ytbmbfgcdbpanjaa", sum := "bd34c2977f7cf4fc1fb1b20750965ccc8bc09b2d39702cd42d4622e50bfd1710", func := "selkie/selkielaw20.CoroReturns", spec := "coroReturns", apart := false, narrowed := true }
def CoroReturnsUptoSaid : Prop := coroReturnsUptoRow.holds Try.pinned (OpenSpec.upto coroReturnsSpec)

end Rows
end Go.Proofs.Ytbmbfgcdbpanjaa
