/- What the counts of a meter do to it, as functions of its numbers; the walks of package meter. -/
import Derived.Test.YtmngeljbcnifgaaRows
import Derived.Test.YtmngeljbcnifgaaKp
import Derived.WalkKit
import Derived.ProofKit
import Derived.Handy
import Derived.StillTailTactics
namespace Go.Proofs.Ytmngeljbcnifgaa
open Go.RowKit

def rightB (f d c s o : Int) : Bool := decide (0 ≤ f ∧ f ≤ 1000000 ∧ 1 ≤ d ∧ d ≤ 200 ∧ 0 ≤ c ∧ c ≤ 100000 ∧ 0 ≤ s ∧ s ≤ 65536 ∧ 0 ≤ o ∧ o ≤ 1000000)

/-- A meter: what is left, the limits, what stopped it, the lines' slice. -/
structure MS where
  (f d c s o lf ld lc ls lo st : Int)
  ln : Value
def MS.cells (m : MS) : Array Value := #[.int .i64 m.f, .int .i64 m.d, .int .i64 m.c, .int .i64 m.s, .int .i64 m.o, .int .i64 m.lf, .int .i64 m.ld, .int .i64 m.lc, .int .i64 m.ls, .int .i64 m.lo, .int .i64 m.st, m.ln]
def MAt (w : World) (b : Nat) (m : MS) : Prop := Blk w b 56 m.cells
/-- The numbers lie where they belong. -/
structure MOk (m : MS) : Prop where
  f0 : 0 ≤ m.f
  f1 : m.f ≤ m.lf
  f2 : m.lf ≤ 1000000
  d0 : 0 ≤ m.d
  d1 : m.d ≤ m.ld
  d2 : m.ld ≤ 200
  c0 : 0 ≤ m.lc
  c2 : m.lc ≤ 100000
  s0 : 0 ≤ m.ls
  s2 : m.ls ≤ 65536
  o0 : 0 ≤ m.o
  o1 : m.o ≤ m.lo
  o2 : m.lo ≤ 1000000
  l1 : 1 ≤ m.ld
def MS.new (f d c s o : Int) : MS := ⟨f, d, c, s, o, f, d, c, s, o, 0, .slice none 0 0⟩
def MS.step (m : MS) : MS := if m.st = 0 then (if m.f < 1 then { m with st := 1 } else { m with f := m.f - 1 }) else m
def MS.enter (m : MS) : MS := if m.st = 0 then (if m.d < 1 then { m with st := 2 } else { m with d := m.d - 1 }) else m
def MS.used (m : MS) (n : Int) : MS := if m.st = 0 then (if m.lc < n then { m with st := 3 } else m) else m
def MS.text (m : MS) (n : Int) : MS := if m.st = 0 then (if m.ls < n then { m with st := 4 } else m) else m
def MS.leave (m : MS) (n : Int) : MS := if 0 < n then { m with d := min m.ld (m.d + min n 200) } else m

theorem ret_int {k : IntKind} {a b : Int} (h : a = b) : Ending.returned (.int k a) = .returned (.int k b) := by rw [h]

set_option maxRecDepth 100000 in
set_option maxHeartbeats 1000000 in
theorem right_any (f d c s o : Int) (w : World)  :
    Calls Try.prog 18 #[.agg #[.int .i64 f, .int .i64 d, .int .i64 c, .int .i64 s, .int .i64 o]] w fun e w' => e = .returned (.bool (rightB f d c s o)) ∧ Below w.heap.size w w' := by
  have i0 : ∀ (a0 a1 a2 a3 a4 a5 a6 a7 a8 a9 a10 a11 a12 a13 a14 : Value) (w : World), (Instr.index 61 (.agg #[a0, a1, a2, a3, a4, a5, a6, a7, a8, a9, a10, a11, a12, a13, a14]) (.int .i64 0)).run Try.prog w = .ok (.agg #[a0, a1, a2]) w := fun _ _ _ _ _ _ _ _ _ _ _ _ _ _ _ _ => by kernel_rfl
  have i1 : ∀ (a0 a1 a2 a3 a4 a5 a6 a7 a8 a9 a10 a11 a12 a13 a14 : Value) (w : World), (Instr.index 61 (.agg #[a0, a1, a2, a3, a4, a5, a6, a7, a8, a9, a10, a11, a12, a13, a14]) (.int .i64 1)).run Try.prog w = .ok (.agg #[a3, a4, a5]) w := fun _ _ _ _ _ _ _ _ _ _ _ _ _ _ _ _ => by kernel_rfl
  have i2 : ∀ (a0 a1 a2 a3 a4 a5 a6 a7 a8 a9 a10 a11 a12 a13 a14 : Value) (w : World), (Instr.index 61 (.agg #[a0, a1, a2, a3, a4, a5, a6, a7, a8, a9, a10, a11, a12, a13, a14]) (.int .i64 2)).run Try.prog w = .ok (.agg #[a6, a7, a8]) w := fun _ _ _ _ _ _ _ _ _ _ _ _ _ _ _ _ => by kernel_rfl
  have i3 : ∀ (a0 a1 a2 a3 a4 a5 a6 a7 a8 a9 a10 a11 a12 a13 a14 : Value) (w : World), (Instr.index 61 (.agg #[a0, a1, a2, a3, a4, a5, a6, a7, a8, a9, a10, a11, a12, a13, a14]) (.int .i64 3)).run Try.prog w = .ok (.agg #[a9, a10, a11]) w := fun _ _ _ _ _ _ _ _ _ _ _ _ _ _ _ _ => by kernel_rfl
  have i4 : ∀ (a0 a1 a2 a3 a4 a5 a6 a7 a8 a9 a10 a11 a12 a13 a14 : Value) (w : World), (Instr.index 61 (.agg #[a0, a1, a2, a3, a4, a5, a6, a7, a8, a9, a10, a11, a12, a13, a14]) (.int .i64 4)).run Try.prog w = .ok (.agg #[a12, a13, a14]) w := fun _ _ _ _ _ _ _ _ _ _ _ _ _ _ _ _ => by kernel_rfl
  go_enter Try.func18, Try.ntmps18
  go_wp2
  go_rounds 6
  all_goals go_returns
  all_goals refine ⟨?_, by go_grown⟩
  all_goals (refine congrArg (fun b => Ending.returned (.bool b)) ?_; unfold rightB; first | (refine (decide_eq_true ?_).symm; omega) | (refine (decide_eq_false ?_).symm; omega))

end Go.Proofs.Ytmngeljbcnifgaa
