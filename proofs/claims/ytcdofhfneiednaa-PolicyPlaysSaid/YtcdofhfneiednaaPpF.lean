/- PolicyPlays: more than it looks at. -/
import Derived.Test.YtcdofhfneiednaaPpE
import Derived.Test.YtcdofhfneiednaaPoU
namespace Go.Proofs.Ytcdofhfneiednaa
set_option linter.unusedSimpArgs false
set_option linter.unusedVariables false
open Go.RowKit

set_option maxRecDepth 100000 in
theorem pplays_many1 (p : Pol) (v : Value) (c : Int) (n : Nat) (ao' : Option Addr) (acap : Nat) (w : World) (h : EIn w v p.evs) (hl : 100 < p.evs.length) (hl2 : p.evs.length ≤ 140737488351232) (hn2 : n ≤ 140737488351232) :
    Calls Try.prog 11 #[.agg (p.cells v), .int .u8 c, .slice ao' n acap] w fun e w' => e = .returned (.bool true) ∧ Below w.heap.size w w' := by
  obtain ⟨ao, cap, rfl, _⟩ := h
  unfold Pol.cells
  go_enter Try.func11, Try.ntmps11
  go_wp2_with fail
  refine (alive18_any _).mono ?_
  rintro e w1 ⟨rfl, hk⟩
  have hx := (Blk.new (w := w) (t := 54) (cs := #[.int .i64 p.ways, .int .i64 p.warm, .int .i64 p.deep, .int .i64 p.fan, .slice ao p.evs.length cap]) rfl).below hk (by simp)
  have x4 := hx.cell 4 (.slice ao p.evs.length cap) rfl
  have hxl := hx.lt
  have hfin : Below w.heap.size w w1 := ((Below.refl _ _).alloc (Nat.le_refl _) _).trans (hk.mono (by simp))
  have HF := Lib.hid hfin
  clear hx hfin hk
  go_wp2
  go_returns
  exact ⟨rfl, HF.out⟩
set_option maxRecDepth 100000 in
theorem pplays_many2 (p : Pol) (v : Value) (c : Int) (n : Nat) (ao' : Option Addr) (acap : Nat) (w : World) (h : EIn w v p.evs) (hl : p.evs.length ≤ 100) (hn : 400 < n) (hn2 : n ≤ 140737488351232) :
    Calls Try.prog 11 #[.agg (p.cells v), .int .u8 c, .slice ao' n acap] w fun e w' => e = .returned (.bool true) ∧ Below w.heap.size w w' := by
  obtain ⟨ao, cap, rfl, _⟩ := h
  unfold Pol.cells
  go_enter Try.func11, Try.ntmps11
  go_wp2_with fail
  refine (alive18_any _).mono ?_
  rintro e w1 ⟨rfl, hk⟩
  have hx := (Blk.new (w := w) (t := 54) (cs := #[.int .i64 p.ways, .int .i64 p.warm, .int .i64 p.deep, .int .i64 p.fan, .slice ao p.evs.length cap]) rfl).below hk (by simp)
  have x4 := hx.cell 4 (.slice ao p.evs.length cap) rfl
  have hxl := hx.lt
  have hfin : Below w.heap.size w w1 := ((Below.refl _ _).alloc (Nat.le_refl _) _).trans (hk.mono (by simp))
  have HF := Lib.hid hfin
  clear hx hfin hk
  go_wp2
  go_returns
  exact ⟨rfl, HF.out⟩
end Go.Proofs.Ytcdofhfneiednaa
