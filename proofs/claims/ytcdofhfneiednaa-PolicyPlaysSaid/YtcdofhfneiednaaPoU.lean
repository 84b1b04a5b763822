/- PolicyLate: more than it looks at; the accesses that came in, opened. -/
import Derived.Test.YtcdofhfneiednaaPoT
namespace Go.Proofs.Ytcdofhfneiednaa
set_option linter.unusedSimpArgs false
set_option linter.unusedVariables false
open Go.ChangeShapes Go.WideShapes Go.ChangeAt Go.RowKit Go.Deep

set_option maxRecDepth 100000 in
theorem late_many1 (p : Pol) (v : Value) (n : Nat) (ao' : Option Addr) (acap : Nat) (w : World) (h : EIn w v p.evs) (hl : 100 < p.evs.length) (hl2 : p.evs.length ≤ 140737488351232) (hn2 : n ≤ 140737488351232) :
    Calls Try.prog 8 #[.agg (p.cells v), .slice ao' n acap] w fun e w' => e = .returned (.bool true) ∧ Below w.heap.size w w' := by
  obtain ⟨ao, cap, rfl, _⟩ := h
  unfold Pol.cells
  go_enter Try.func8, Try.ntmps8
  go_wp2_with fail
  refine (alive18_any _).mono ?_
  rintro e w1 ⟨rfl, hk⟩
  have hx := (Blk.new (w := w) (t := 54) (cs := #[.int .i64 p.ways, .int .i64 p.warm, .int .i64 p.deep, .int .i64 p.fan, .slice ao p.evs.length cap]) rfl).below hk (by simp)
  have x4 := hx.cell 4 (.slice ao p.evs.length cap) rfl
  have hxl := hx.lt
  have hfin : Below w.heap.size w w1 := ((Below.refl _ _).alloc (Nat.le_refl _) _).trans (hk.mono (by simp))
  have HF := Lib.hid hfin
  clear hx hfin hk
  go_wp2
  go_returns
  exact ⟨rfl, HF.out⟩
set_option maxRecDepth 100000 in
theorem late_many2 (p : Pol) (v : Value) (n : Nat) (ao' : Option Addr) (acap : Nat) (w : World) (h : EIn w v p.evs) (hl : p.evs.length ≤ 100) (hn : 400 < n) (hn2 : n ≤ 140737488351232) :
    Calls Try.prog 8 #[.agg (p.cells v), .slice ao' n acap] w fun e w' => e = .returned (.bool true) ∧ Below w.heap.size w w' := by
  obtain ⟨ao, cap, rfl, _⟩ := h
  unfold Pol.cells
  go_enter Try.func8, Try.ntmps8
  go_wp2_with fail
  refine (alive18_any _).mono ?_
  rintro e w1 ⟨rfl, hk⟩
  have hx := (Blk.new (w := w) (t := 54) (cs := #[.int .i64 p.ways, .int .i64 p.warm, .int .i64 p.deep, .int .i64 p.fan, .slice ao p.evs.length cap]) rfl).below hk (by simp)
  have x4 := hx.cell 4 (.slice ao p.evs.length cap) rfl
  have hxl := hx.lt
  have hfin : Below w.heap.size w w1 := ((Below.refl _ _).alloc (Nat.le_refl _) _).trans (hk.mono (by simp))
  have HF := Lib.hid hfin
  clear hx hfin hk
  go_wp2
  go_returns
  exact ⟨rfl, HF.out⟩
section
variable {H : Type} {enc : TypeId × Value → H} {W : World}
set_option maxRecDepth 100000 in
theorem open_accs {base : Nat} {v : Value} {d : DataW H} {p : List MemPlace} (ok : Value.okWide Try.prog W .any base 67 v) (h : DataW.Trod enc Try.prog W 0 (fun _ => true) true 67 v d p) (hf : Fits Try.prog 67 d) :
    ∃ sa cap, ∃ l : List Acc, v = .slice sa l.length cap ∧ l.length ≤ 140737488351232 ∧ AIn W sa l := by
  obtain ⟨sa, len, cap, rfl⟩ := okWide_slice (t := 67) Try.underlying67 ok
  have hC : Try.prog.cellsOf 73 = 2 := by kernel_rfl
  have hB : Try.prog.bytesOf 73 = 16 := by kernel_rfl
  obtain ⟨h1, h2, h3⟩ := open_recs (by omega) Try.underlying67 Try.underlying73 (by kernel_rfl) hC (by decide) h hf
  rw [hB] at h2
  have hlen : len ≤ 140737488351232 := by simp only [reachBytes] at h2; omega
  by_cases hl : 0 < len
  · obtain ⟨ob, off, rfl, hb, hc⟩ := h3 hl
    have key : ∀ i, i < len → ∃ o : Acc, W.cell? ⟨ob, off + i * 2, none⟩ = some (.int .i64 o.id) ∧ W.cell? ⟨ob, off + i * 2 + 1, none⟩ = some (.int .i64 o.sh) := by
      intro i hi
      obtain ⟨u0, g0, r0⟩ := hc i hi 0 _ rfl
      obtain ⟨u1, g1, r1⟩ := hc i hi 1 _ rfl
      obtain ⟨n0, rfl, _⟩ := r0.int Try.underlying3
      obtain ⟨n1, rfl, _⟩ := r1.int Try.underlying3
      exact ⟨⟨n0, n1⟩, g0, g1⟩
    let f : Nat → Acc := fun i => if h : i < len then Classical.choose (key i h) else default
    have hfl : ((List.range len).map f).length = len := by simp
    refine ⟨_, cap, (List.range len).map f, by rw [hfl], by rw [hfl]; exact hlen, .inr ⟨ob, off, rfl, hb, ?_⟩⟩
    intro i hi
    have hi' : i < len := by rwa [hfl] at hi
    have := Classical.choose_spec (key i hi')
    simp only [List.getElem_map, List.getElem_range, f, dif_pos hi']
    exact this
  · obtain rfl : len = 0 := by omega
    exact ⟨sa, cap, [], rfl, by simp, .inl rfl⟩
end
end Go.Proofs.Ytcdofhfneiednaa
