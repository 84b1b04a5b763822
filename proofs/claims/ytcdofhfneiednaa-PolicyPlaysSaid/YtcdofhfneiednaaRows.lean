/-
  No cell of these rows narrows 'for every input' (looked for: loops, veiled, ifaces, maps, wideKeys, modest, calm, conditions, laid).
  DERIVED. THE GIVEN ROWS OF THIS SEAT. 9 by the template 'for every input the law returns true; each argument reads behind the call as it read before'; 0 by the template 'total and deterministic' (their statements: YtcdofhfneiednaaTotals.lean).
  GIVEN WITH THE SEED: the statements are not yours to turn. If you find one false, say at which input.
  Laid BY PROGRAM, IN A SANDBOX (cutbox-rows.mjs): the forced cells as the released guide's own fill.sh prints them over the translation 942162e50dd3ffbc… (all of the seat's roots in one cut). By AI agents, Wed Nov 11 2026. No macro, syntax, notation, axiom, sorry.
-/
import Derived.Test.YtcdofhfneiednaaChecked
import GoSem.Claim
import GoSem.ClaimJoined
import GoSem.ClaimMapViews
import Derived.JoinedTies
import Derived.KernelRfl
namespace Go.Proofs.Ytcdofhfneiednaa
/- THE CELL 'sum', in the pinned program and in every row, IS THE sha256 OF THE DUMP (.gsa) THAT YtcdofhfneiednaaProg.lean LOADS. Nothing in Lean hashes anything: it is a label: what it is worth is what the hold of that sum in a sandbox is worth. -/
noncomputable def Try.pinned : Pinned := { name := "ytcdofhfneiednaa", sum := "942162e50dd3ffbcc64a762dac2b9b3a4447d64ad6f5acf4c3afe4d984a9485e", checked := Try.checked }
namespace Rows
def none {H : Type} : Left H := { results := [], args := [] }

/-- 'selkielaw17.SiteSettles': WHATEVER THE INPUT: true; the input reads as it did. -/
def siteSettlesSpec : ChangeSpec := { name := "siteSettles", fn := fun _ => fun
  | [d1, d2, d3] => { results := [.lit (.bool true)], args := [d1, d2, d3] }
  | _ => none }
def siteSettlesRow : OpenClaim := { program := "ytcdofhfneiednaa", sum := "942162e50dd3ffbcc64a762dac2b9b3a4447d64ad6f5acf4c3afe4d984a9485e", func := "selkie/selkielaw17.SiteSettles", spec := "siteSettles", unfollowed := true, recurses := true, apart := false }
def SiteSettlesSaid : Prop := siteSettlesRow.holds Try.pinned (OpenSpec.ofChange siteSettlesSpec)

/-- ITS FALSE NEIGHBOUR: 'it returns false'. Refute it at one input. -/
def siteSettlesWrong : ChangeSpec := { name := "siteSettles", fn := fun _ => fun
  | [d1, d2, d3] => { results := [.lit (.bool false)], args := [d1, d2, d3] }
  | _ => none }
def SiteSettlesWrongFalsely : Prop := siteSettlesRow.holds Try.pinned (OpenSpec.ofChange siteSettlesWrong)

/-- 'selkielaw17.SiteTurns': WHATEVER THE INPUT: true; the input reads as it did. -/
def siteTurnsSpec : ChangeSpec := { name := "siteTurns", fn := fun _ => fun
  | [d1, d2] => { results := [.lit (.bool true)], args := [d1, d2] }
  | _ => none }
def siteTurnsRow : OpenClaim := { program := "ytcdofhfneiednaa", sum := "942162e50dd3ffbcc64a762dac2b9b3a4447d64ad6f5acf4c3afe4d984a9485e", func := "selkie/selkielaw17.SiteTurns", spec := "siteTurns", unfollowed := true, recurses := true, apart := false }
def SiteTurnsSaid : Prop := siteTurnsRow.holds Try.pinned (OpenSpec.ofChange siteTurnsSpec)

/-- ITS FALSE NEIGHBOUR: 'it returns false'. Refute it at one input. -/
def siteTurnsWrong : ChangeSpec := { name := "siteTurns", fn := fun _ => fun
  | [d1, d2] => { results := [.lit (.bool false)], args := [d1, d2] }
  | _ => none }
def SiteTurnsWrongFalsely : Prop := siteTurnsRow.holds Try.pinned (OpenSpec.ofChange siteTurnsWrong)

/-- 'selkielaw17.SitePlays': WHATEVER THE INPUT: true; the input reads as it did. -/
def sitePlaysSpec : ChangeSpec := { name := "sitePlays", fn := fun _ => fun
  | [d1, d2, d3] => { results := [.lit (.bool true)], args := [d1, d2, d3] }
  | _ => none }
def sitePlaysRow : OpenClaim := { program := "ytcdofhfneiednaa", sum := "942162e50dd3ffbcc64a762dac2b9b3a4447d64ad6f5acf4c3afe4d984a9485e", func := "selkie/selkielaw17.SitePlays", spec := "sitePlays", unfollowed := true, recurses := true, apart := false }
def SitePlaysSaid : Prop := sitePlaysRow.holds Try.pinned (OpenSpec.ofChange sitePlaysSpec)

/-- ITS FALSE NEIGHBOUR: 'it returns false'. Refute it at one input. -/
def sitePlaysWrong : ChangeSpec := { name := "sitePlays", fn := fun _ => fun
  | [d1, d2, d3] => { results := [.lit (.bool false)], args := [d1, d2, d3] }
  | _ => none }
def SitePlaysWrongFalsely : Prop := sitePlaysRow.holds Try.pinned (OpenSpec.ofChange sitePlaysWrong)

/-- 'selkielaw17.SiteHits': WHATEVER THE INPUT: true; the input reads as it did. -/
def siteHitsSpec : ChangeSpec := { name := "siteHits", fn := fun _ => fun
  | [d1, d2, d3] => { results := [.lit (.bool true)], args := [d1, d2, d3] }
  | _ => none }
def siteHitsRow : OpenClaim := { program := "ytcdofhfneiednaa", sum := "942162e50dd3ffbcc64a762dac2b9b3a4447d64ad6f5acf4c3afe4d984a9485e", func := "selkie/selkielaw17.SiteHits", spec := "siteHits", unfollowed := true, recurses := true, apart := false }
def SiteHitsSaid : Prop := siteHitsRow.holds Try.pinned (OpenSpec.ofChange siteHitsSpec)

/-- ITS FALSE NEIGHBOUR: 'it returns false'. Refute it at one input. -/
def siteHitsWrong : ChangeSpec := { name := "siteHits", fn := fun _ => fun
  | [d1, d2, d3] => { results := [.lit (.bool false)], args := [d1, d2, d3] }
  | _ => none }
def SiteHitsWrongFalsely : Prop := siteHitsRow.holds Try.pinned (OpenSpec.ofChange siteHitsWrong)

/-- 'selkielaw18.PolicyRight': WHATEVER THE INPUT: true; the input reads as it did. -/
def policyRightSpec : ChangeSpec := { name := "policyRight", fn := fun _ => fun
  | [d1, d2] => { results := [.lit (.bool true)], args := [d1, d2] }
  | _ => none }
def policyRightRow : OpenClaim := { program := "ytcdofhfneiednaa", sum := "942162e50dd3ffbcc64a762dac2b9b3a4447d64ad6f5acf4c3afe4d984a9485e", func := "selkie/selkielaw18.PolicyRight", spec := "policyRight", unfollowed := true, recurses := true, apart := false }
def PolicyRightSaid : Prop := policyRightRow.holds Try.pinned (OpenSpec.ofChange policyRightSpec)

/-- ITS FALSE NEIGHBOUR: 'it returns false'. Refute it at one input. -/
def policyRightWrong : ChangeSpec := { name := "policyRight", fn := fun _ => fun
  | [d1, d2] => { results := [.lit (.bool false)], args := [d1, d2] }
  | _ => none }
def PolicyRightWrongFalsely : Prop := policyRightRow.holds Try.pinned (OpenSpec.ofChange policyRightWrong)

/-- 'selkielaw18.PolicyLate': WHATEVER THE INPUT: true; the input reads as it did. -/
def policyLateSpec : ChangeSpec := { name := "policyLate", fn := fun _ => fun
  | [d1, d2] => { results := [.lit (.bool true)], args := [d1, d2] }
  | _ => none }
def policyLateRow : OpenClaim := { program := "ytcdofhfneiednaa", sum := "942162e50dd3ffbcc64a762dac2b9b3a4447d64ad6f5acf4c3afe4d984a9485e", func := "selkie/selkielaw18.PolicyLate", spec := "policyLate", unfollowed := true, recurses := true, apart := false }
def PolicyLateSaid : Prop := policyLateRow.holds Try.pinned (OpenSpec.ofChange policyLateSpec)

/-- ITS FALSE NEIGHBOUR: 'it returns false'. Refute it at one input. -/
def policyLateWrong : ChangeSpec := { name := "policyLate", fn := fun _ => fun
  | [d1, d2] => { results := [.lit (.bool false)], args := [d1, d2] }
  | _ => none }
def PolicyLateWrongFalsely : Prop := policyLateRow.holds Try.pinned (OpenSpec.ofChange policyLateWrong)

/-- 'selkielaw18.PolicyOne': WHATEVER THE INPUT: true; the input reads as it did. -/
def policyOneSpec : ChangeSpec := { name := "policyOne", fn := fun _ => fun
  | [d1, d2, d3] => { results := [.lit (.bool true)], args := [d1, d2, d3] }
  | _ => none }
def policyOneRow : OpenClaim := { program := "ytcdofhfneiednaa", sum := "942162e50dd3ffbcc64a762dac2b9b3a4447d64ad6f5acf4c3afe4d984a9485e", func := "selkie/selkielaw18.PolicyOne", spec := "policyOne", unfollowed := true, recurses := true, apart := false }
def PolicyOneSaid : Prop := policyOneRow.holds Try.pinned (OpenSpec.ofChange policyOneSpec)

/-- ITS FALSE NEIGHBOUR: 'it returns false'. Refute it at one input. -/
def policyOneWrong : ChangeSpec := { name := "policyOne", fn := fun _ => fun
  | [d1, d2, d3] => { results := [.lit (.bool false)], args := [d1, d2, d3] }
  | _ => none }
def PolicyOneWrongFalsely : Prop := policyOneRow.holds Try.pinned (OpenSpec.ofChange policyOneWrong)

/-- 'selkielaw18.PolicyAll': WHATEVER THE INPUT: true; the input reads as it did. -/
def policyAllSpec : ChangeSpec := { name := "policyAll", fn := fun _ => fun
  | [d1, d2] => { results := [.lit (.bool true)], args := [d1, d2] }
  | _ => none }
def policyAllRow : OpenClaim := { program := "ytcdofhfneiednaa", sum := "942162e50dd3ffbcc64a762dac2b9b3a4447d64ad6f5acf4c3afe4d984a9485e", func := "selkie/selkielaw18.PolicyAll", spec := "policyAll", unfollowed := true, recurses := true, apart := false }
def PolicyAllSaid : Prop := policyAllRow.holds Try.pinned (OpenSpec.ofChange policyAllSpec)

/-- ITS FALSE NEIGHBOUR: 'it returns false'. Refute it at one input. -/
def policyAllWrong : ChangeSpec := { name := "policyAll", fn := fun _ => fun
  | [d1, d2] => { results := [.lit (.bool false)], args := [d1, d2] }
  | _ => none }
def PolicyAllWrongFalsely : Prop := policyAllRow.holds Try.pinned (OpenSpec.ofChange policyAllWrong)

/-- 'selkielaw18.PolicyPlays': WHATEVER THE INPUT: true; the input reads as it did. -/
def policyPlaysSpec : ChangeSpec := { name := "policyPlays", fn := fun _ => fun
  | [d1, d2, d3] => { results := [.lit (.bool true)], args := [d1, d2, d3] }
  | _ => none }
def policyPlaysRow : OpenClaim := { program := "ytcdofhfneiednaa", sum := "942162e50dd3ffbcc64a762dac2b9b3a4447d64ad6f5acf4c3afe4d984a9485e", func := "selkie/selkielaw18.PolicyPlays", spec := "policyPlays", unfollowed := true, recurses := true, apart := false }
def PolicyPlaysSaid : Prop := policyPlaysRow.holds Try.pinned (OpenSpec.ofChange policyPlaysSpec)

/-- ITS FALSE NEIGHBOUR: 'it returns false'. Refute it at one input. -/
def policyPlaysWrong : ChangeSpec := { name := "policyPlays", fn := fun _ => fun
  | [d1, d2, d3] => { results := [.lit (.bool false)], args := [d1, d2, d3] }
  | _ => none }
def PolicyPlaysWrongFalsely : Prop := policyPlaysRow.holds Try.pinned (OpenSpec.ofChange policyPlaysWrong)

/- THE SECOND FORM. 'bulk': how many values and letters a reading holds, each counted each time it is reached (what is shared counts as often as it is met; a slice's spare places count too). A statement '..UptoSaid' is the law's where the arguments, and the package variables that the reading takes, are together of bulk at most 1048576: NARROWER than '..Said'. Prove '..Said' where nothing that the law and all that it calls make is longer than what came in: it says more and counts as full. Else prove '..UptoSaid'. A law counts once. -/
mutual
def uptoBulk {H : Type} : DataW H → Nat
  | .lit (.string bytes) => bytes.length + 1
  | .lit _ => 1
  | .nil => 1
  | .ptr d => uptoBulk d + 1
  | .slice elems spare => uptoBulkAll elems + uptoBulkAll spare + 1
  | .agg parts => uptoBulkAll parts + 1
  | .iface _ d => uptoBulk d + 1
  | .map entries => uptoBulkEntries entries + 1
  | .held _ => 1
def uptoBulkAll {H : Type} : List (DataW H) → Nat
  | [] => 0
  | d :: r => uptoBulk d + uptoBulkAll r
def uptoBulkEntries {H : Type} : List (Lit × DataW H) → Nat
  | [] => 0
  | x :: r => uptoBulkEntry x + uptoBulkEntries r
def uptoBulkEntry {H : Type} : Lit × DataW H → Nat
  | (.string bytes, d) => bytes.length + uptoBulk d + 1
  | (_, d) => uptoBulk d + 1
 end
def uptoSmall : (H : Type) → List (DataW H) → Bool := fun _ ds => decide (uptoBulkAll ds ≤ 1048576)
def OpenSpec.upto (s : _root_.Go.ChangeSpec) : _root_.Go.OpenSpec := { _root_.Go.OpenSpec.ofChange s with cond := some uptoSmall }

/-- 'selkielaw17.SiteSettles', WHERE WHAT IT READS IS OF BULK AT MOST 1048576: true; the input reads as it did. -/
def siteSettlesUptoRow : OpenClaim := { program := "ytcdofhfneiednaa", sum := "942162e50dd3ffbcc64a762dac2b9b3a4447d64ad6f5acf4c3afe4d984a9485e", func := "selkie/selkielaw17.SiteSettles", spec := "siteSettles", unfollowed := true, recurses := true, apart := false, narrowed := true }
def SiteSettlesUptoSaid : Prop := siteSettlesUptoRow.holds Try.pinned (OpenSpec.upto siteSettlesSpec)

/-- 'selkielaw17.SiteTurns', WHERE WHAT IT READS IS OF BULK AT MOST 1048576: true; the input reads as it did. -/
def siteTurnsUptoRow : OpenClaim := { program := "ytcdofhfneiednaa", sum := "942162e50dd3ffbcc64a762dac2b9b3a4447d64ad6f5acf4c3afe4d984a9485e", func := "selkie/selkielaw17.SiteTurns", spec := "siteTurns", unfollowed := true, recurses := true, apart := false, narrowed := true }
def SiteTurnsUptoSaid : Prop := siteTurnsUptoRow.holds Try.pinned (OpenSpec.upto siteTurnsSpec)

/-- 'selkielaw17.SitePlays', WHERE WHAT IT READS IS OF BULK AT MOST 1048576: true; the input reads as it did. -/
def sitePlaysUptoRow : OpenClaim := { program := "ytcdofhfneiednaa", sum := "942162e50dd3ffbcc64a762dac2b9b3a4447d64ad6f5acf4c3afe4d984a9485e", func := "selkie/selkielaw17.SitePlays", spec := "sitePlays", unfollowed := true, recurses := true, apart := false, narrowed := true }
def SitePlaysUptoSaid : Prop := sitePlaysUptoRow.holds Try.pinned (OpenSpec.upto sitePlaysSpec)

/-- 'selkielaw17.SiteHits', WHERE WHAT IT READS IS OF BULK AT MOST 1048576: true; the input reads as it did. -/
def siteHitsUptoRow : OpenClaim := { program := "ytcdofhfneiednaa", sum := "942162e50dd3ffbcc64a762dac2b9b3a4447d64ad6f5acf4c3afe4d984a9485e", func := "selkie/selkielaw17.SiteHits", spec := "siteHits", unfollowed := true, recurses := true, apart := false, narrowed := true }
def SiteHitsUptoSaid : Prop := siteHitsUptoRow.holds Try.pinned (OpenSpec.upto siteHitsSpec)

/-- 'selkielaw18.PolicyRight', WHERE WHAT IT READS IS OF BULK AT MOST 1048576: true; the input reads as it did. -/
def policyRightUptoRow : OpenClaim := { program := "ytcdofhfneiednaa", sum := "942162e50dd3ffbcc64a762dac2b9b3a4447d64ad6f5acf4c3afe4d984a9485e", func := "selkie/selkielaw18.PolicyRight", spec := "policyRight", unfollowed := true, recurses := true, apart := false, narrowed := true }
def PolicyRightUptoSaid : Prop := policyRightUptoRow.holds Try.pinned (OpenSpec.upto policyRightSpec)

/-- 'selkielaw18.PolicyLate', WHERE WHAT IT READS IS OF BULK AT MOST 1048576: true; the input reads as it did. -/
def policyLateUptoRow : OpenClaim := { program := "ytcdofhfneiednaa", sum := "942162e50dd3ffbcc64a762dac2b9b3a4447d64ad6f5acf4c3afe4d984a9485e", func := "selkie/selkielaw18.PolicyLate", spec := "policyLate", unfollowed := true, recurses := true, apart := false, narrowed := true }
def PolicyLateUptoSaid : Prop := policyLateUptoRow.holds Try.pinned (OpenSpec.upto policyLateSpec)

/-- 'selkielaw18.PolicyOne', WHERE WHAT IT READS IS OF BULK AT MOST 1048576: true; the input reads as it did. -/
def policyOneUptoRow : OpenClaim := { program := "ytcdofhfneiednaa", sum := "942162e50dd3ffbcc64a762dac2b9b3a4447d64ad6f5acf4c3afe4d984a9485e", func := "selkie/selkielaw18.PolicyOne", spec := "policyOne", unfollowed := true, recurses := true, apart := false, narrowed := true }
def PolicyOneUptoSaid : Prop := policyOneUptoRow.holds Try.pinned (OpenSpec.upto policyOneSpec)

/-- 'selkielaw18.PolicyAll', WHERE WHAT IT READS IS OF BULK AT MOST 1048576: true; the input reads as it did. -/
def policyAllUptoRow : OpenClaim := { program := "ytcdofhfneiednaa", sum := "942162e50dd3ffbcc64a762dac2b9b3a4447d64ad6f5acf4c3afe4d984a9485e", func := "selkie/selkielaw18.PolicyAll", spec := "policyAll", unfollowed := true, recurses := true, apart := false, narrowed := true }
def PolicyAllUptoSaid : Prop := policyAllUptoRow.holds Try.pinned (OpenSpec.upto policyAllSpec)

/-- 'selkielaw18.PolicyPlays', WHERE WHAT IT READS IS OF BULK AT MOST 1048576: true; the input reads as it did. -/
def policyPlaysUptoRow : OpenClaim := { program := "ytcdofhfneiednaa", sum := "942162e50dd3ffbcc64a762dac2b9b3a4447d64ad6f5acf4c3afe4d984a9485e", func := "selkie/selkielaw18.PolicyPlays", spec := "policyPlays", unfollowed := true, recurses := true, apart := false, narrowed := true }
def PolicyPlaysUptoSaid : Prop := policyPlaysUptoRow.holds Try.pinned (OpenSpec.upto policyPlaysSpec)

end Rows
end Go.Proofs.Ytcdofhfneiednaa
